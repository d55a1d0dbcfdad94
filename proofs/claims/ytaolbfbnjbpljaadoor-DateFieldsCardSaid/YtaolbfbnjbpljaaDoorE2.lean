/- Walks: Of, by the program and by the reference. -/
import Derived.Test.YtaolbfbnjbpljaaDoorE1
namespace Go.Proofs.YtaolbfbnjbpljaaDoor
open Go.RowKit
attribute [local go_sem] Ext.cell Ext.frozen
attribute [local go_sem ↓] Go.wp_at_zero Go.wp_at_succ

theorem below_drew2 (w : World) (o : Obj) : Below w.heap.size w (w.alloc o) := (Below.refl _ _).alloc (Nat.le_refl _) _
set_option maxRecDepth 20000 in
set_option maxHeartbeats 4000000 in
theorem rdays_in (y m : Nat) (w : World) (hy : 1900 ≤ y) (hy2 : y ≤ 2199) (h1 : 1 ≤ m) (h2 : m ≤ 12) : Calls Tryd.prog 41 #[.int .i64 (y : Int), .int .i64 (m : Int)] w fun e w' => e = .returned (.int .i64 (mlen y m : Nat)) ∧ Below w.heap.size w w' := by
  have HL := Lib.hid (fun w => rleap_any y w (by omega))
  have HO : Hid (mlen y m = if m = 2 ∧ leapB y = true then 29 else mtab.getD (m - 1) 0) := rfl
  cases hl : leapB y <;> rw [hl] at HL HO <;> clear hl <;> rcases month_cases h1 h2 with h | h | h | h | h | h | h | h | h | h | h | h <;> subst h
  all_goals
    go_enter Tryd.func41, Tryd.ntmps41
    go_wp2_with (first | (refine (HL.out _).mono ?_; rintro e _ ⟨rfl, rfl⟩))
    go_ret
    exact ⟨by rw [HO.out]; rfl, by (show Bel w _; (repeat (first | exact Bel.refl _ | refine Bel.ext ?_ _ | refine Bel.alloc ?_ _ | exact Nat.le_refl _ | (simp; done) | omega)))⟩
theorem rdays_out (y m : Int) (w : World) (h : y < 1900 ∨ 2199 < y ∨ m < 1 ∨ 12 < m) : Calls Tryd.prog 41 #[.int .i64 y, .int .i64 m] w fun e w' => e = .returned (.int .i64 0) ∧ w = w' := by
  by_cases a : y < 1900
  · go_enter Tryd.func41, Tryd.ntmps41
    go_wp2_with fail
    go_ret
    exact ⟨rfl, rfl⟩
  · by_cases b : 2199 < y
    · go_enter Tryd.func41, Tryd.ntmps41
      go_wp2_with fail
      go_ret
      exact ⟨rfl, rfl⟩
    · by_cases c : m < 1
      · go_enter Tryd.func41, Tryd.ntmps41
        go_wp2_with fail
        go_ret
        exact ⟨rfl, rfl⟩
      · have d : 12 < m := by omega
        go_enter Tryd.func41, Tryd.ntmps41
        go_wp2_with fail
        go_ret
        exact ⟨rfl, rfl⟩

theorem dby_bd {j : Nat} (h : j ≤ 300) : dby j ≤ 109573 := by have := dby_mono h; rw [dby_all] at this; exact this
theorem cum_bd (y : Nat) {j : Nat} (h : j ≤ 12) : cum y j ≤ 366 := by have := cum_mono (y := y) h; rw [cum_year] at this; have := ylen_bd y; omega
theorem ofV_no {y m d : Int} (h : ¬ vldI y m d) : ofV y m d = (0, 2) := by unfold ofV; rw [if_neg h]
set_option maxHeartbeats 4000000 in
theorem of_no (y m d : Int) (w : World) (h : ¬ vldI y m d) : Calls Tryd.prog 16 #[.int .i64 y, .int .i64 m, .int .i64 d] w fun e w' => e = .returned (.tuple #[.int .i64 (ofV y m d).1, .int .i64 ((ofV y m d).2 : Nat)]) ∧ Below w.heap.size w w' := by
  have HO := Lib.hid (ofV_no h)
  unfold vldI at h
  by_cases a : y < 1900
  · clear h
    go_enter Tryd.func16, Tryd.ntmps16
    go_wp2_with fail
    go_ret2
    exact ⟨by rw [HO.out]; rfl, by (show Bel w _; (repeat (first | assumption | exact Bel.refl _ | refine Bel.ext ?_ _ | refine Bel.alloc ?_ _ | exact Nat.le_refl _ | (simp; done) | omega)))⟩
  by_cases b : 2199 < y
  · clear h
    go_enter Tryd.func16, Tryd.ntmps16
    go_wp2_with fail
    go_ret2
    exact ⟨by rw [HO.out]; rfl, by (show Bel w _; (repeat (first | assumption | exact Bel.refl _ | refine Bel.ext ?_ _ | refine Bel.alloc ?_ _ | exact Nat.le_refl _ | (simp; done) | omega)))⟩
  by_cases c : m < 1
  · clear h
    go_enter Tryd.func16, Tryd.ntmps16
    go_wp2_with fail
    go_ret2
    exact ⟨by rw [HO.out]; rfl, by (show Bel w _; (repeat (first | assumption | exact Bel.refl _ | refine Bel.ext ?_ _ | refine Bel.alloc ?_ _ | exact Nat.le_refl _ | (simp; done) | omega)))⟩
  by_cases c2 : 12 < m
  · clear h
    go_enter Tryd.func16, Tryd.ntmps16
    go_wp2_with fail
    go_ret2
    exact ⟨by rw [HO.out]; rfl, by (show Bel w _; (repeat (first | assumption | exact Bel.refl _ | refine Bel.ext ?_ _ | refine Bel.alloc ?_ _ | exact Nat.le_refl _ | (simp; done) | omega)))⟩
  by_cases k : d < 1
  · clear h
    go_enter Tryd.func16, Tryd.ntmps16
    go_wp2_with fail
    go_ret2
    exact ⟨by rw [HO.out]; rfl, by (show Bel w _; (repeat (first | assumption | exact Bel.refl _ | refine Bel.ext ?_ _ | refine Bel.alloc ?_ _ | exact Nat.le_refl _ | (simp; done) | omega)))⟩
  obtain ⟨yn, rfl⟩ : ∃ n : Nat, y = n := ⟨y.toNat, by omega⟩
  obtain ⟨mn, rfl⟩ : ∃ n : Nat, m = n := ⟨m.toNat, by omega⟩
  have HL := Lib.hid (fun w => length_any yn mn w (by omega) (by omega) (by omega))
  rw [Int.toNat_natCast, Int.toNat_natCast] at h
  have hgt : (mlen yn mn : Int) < d := by omega
  clear h
  generalize mlen yn mn = ml at *
  go_enter Tryd.func16, Tryd.ntmps16
  go_wp2_with fail
  refine (HL.out _).mono ?_
  rintro e _ ⟨rfl, rfl⟩
  go_wp2_with fail
  go_ret2
  exact ⟨by rw [HO.out]; rfl, by (show Bel w _; (repeat (first | assumption | exact Bel.refl _ | refine Bel.ext ?_ _ | refine Bel.alloc ?_ _ | exact Nat.le_refl _ | (simp; done) | omega)))⟩

set_option maxRecDepth 20000 in
set_option maxHeartbeats 8000000 in
theorem of_yes (y m d : Nat) (w : World) (h : vldP y m d) : Calls Tryd.prog 16 #[.int .i64 (y : Int), .int .i64 (m : Int), .int .i64 (d : Int)] w fun e w' => e = .returned (.tuple #[.int .i64 (ofV (y : Int) (m : Int) (d : Int)).1, .int .i64 ((ofV (y : Int) (m : Int) (d : Int)).2 : Nat)]) ∧ Below w.heap.size w w' := by
  have HO : Hid (ofV (y : Int) (m : Int) (d : Int) = ((num y m d : Int) - 25567, 0)) := ofV_nat h
  have HN : Hid (num y m d = dby (y - 1900) + cum y (m - 1) + (d - 1)) := rfl
  have hml := mlen_bd (y := y) h.2.2.1 h.2.2.2.1
  obtain ⟨hy1, hy2, hm1, hm2, hd1, hd2⟩ := h
  have HL := Lib.hid (fun w => length_any y m w (by omega) (by omega) (by omega))
  have HLL := Lib.hid (fun i w (h : i + 1 ≤ m) => length_any y (i + 1) w (by omega) (by omega) (by omega))
  have HY := Lib.hid (fun j w (h : j ≤ 300) => year_any (1900 + j) w (by omega))
  have HDS : Hid (∀ j, dby (j + 1) = dby j + ylen (1900 + j)) := fun _ => rfl
  have HCS : Hid (∀ j, cum y (j + 1) = cum y j + mlen y (j + 1)) := fun _ => rfl
  have HD0 : Hid (dby 0 = 0) := rfl
  have HC0 : Hid (cum y 0 = 0) := rfl
  have hdd : (d : Int) ≤ (mlen y m : Int) := by omega
  generalize mlen y m = ml at *
  have g1 : decide ((y : Int) < 1900) = false := by simp; omega
  have g2 : decide ((2199 : Int) < (y : Int)) = false := by simp; omega
  have g3 : decide ((m : Int) < 1) = false := by simp; omega
  have g4 : decide ((12 : Int) < (m : Int)) = false := by simp; omega
  have g5 : decide ((d : Int) < 1) = false := by simp; omega
  have g6 : decide (ml < d) = false := by simp; omega
  go_enter Tryd.func16, Tryd.ntmps16
  go_wp2_with fail
  refine (HL.out _).mono ?_
  rintro e _ ⟨rfl, rfl⟩
  go_wp2_with fail
  go_loop [8, 9] (fun v i => ∃ (j : Nat) (z : Int), j ≤ y - 1900 ∧ i = .int .i64 ((1900 + j : Nat) : Int) ∧ v = .int .i64 z ∧ z = (d : Int) - 25568 + (dby j : Int)) (fun _ i => y - (intOf i).toNat)
  case atStart => exact ⟨0, _, by omega, rfl, rfl, by rw [HD0.out]; omega⟩
  case round =>
    obtain ⟨j, z, hj, rfl, rfl, hz⟩ := hrel
    have hjb := dby_bd (j := j) (by omega)
    by_cases hlt : j < y - 1900
    · have hlt2 : ((1900 + j : Nat) : Int) < (y : Int) := by omega
      have hyl := ylen_bd (1900 + j)
      have HZ := Lib.hid hz
      have hz1 : -30000 ≤ z ∧ z ≤ 200000 := by omega
      obtain ⟨hz1, hz2⟩ := hz1
      have HJ : Hid (((1900 + j : Nat) : Int) + 1 = ((1900 + (j + 1) : Nat) : Int)) := by unfold Hid; omega
      have hy9 : 1900 + j ≤ 2199 := by omega
      clear hz
      have HYJ := Lib.hid (fun w => HY.out j w (by omega))
      have HDJ := Lib.hid (HDS.out j)
      generalize hq : 1900 + j = q at *
      generalize hyq : ylen q = yl at *
      clear hq
      go_wp2_with fail
      refine (HYJ.out _).mono ?_
      rintro e _ ⟨rfl, rfl⟩
      go_wp2_with fail
      go_round
      case rel => exact ⟨j + 1, _, by omega, by rw [HJ.out], rfl, by rw [HDJ.out]; have := HZ.out; omega⟩
      case measure => simp [intOf]; omega
    · have hje : j = y - 1900 := by omega
      have HZ := Lib.hid hz
      have hz1 : -30000 ≤ z ∧ z ≤ 200000 := by omega
      obtain ⟨hz1, hz2⟩ := hz1
      have hq2 : ((1900 + j : Nat) : Int) = (y : Int) := by omega
      rw [hq2]
      clear hz hq2
      have HJE := Lib.hid hje
      clear hje hlt
      go_wp2_with fail
      go_loop [8, 10] (fun v i => ∃ (k : Nat) (z2 : Int), k + 1 ≤ m ∧ i = .int .i64 ((k + 1 : Nat) : Int) ∧ v = .int .i64 z2 ∧ z2 = z + (cum y k : Int)) (fun _ i => m - (intOf i).toNat)
      case atStart => exact ⟨0, _, by omega, rfl, rfl, by rw [HC0.out]; omega⟩
      case round =>
        obtain ⟨k, z2, hk, rfl, rfl, hz3⟩ := hrel
        have hkb := cum_bd y (j := k) (by omega)
        have HZ2 := Lib.hid hz3
        have hz4 : -30000 ≤ z2 ∧ z2 ≤ 210000 := by omega
        obtain ⟨hz4, hz5⟩ := hz4
        clear hz3
        by_cases hlt : k + 1 < m
        · have hlt2 : ((k + 1 : Nat) : Int) < (m : Int) := by omega
          have hmk := mlen_bd (y := y) (m := k + 1) (by omega) (by omega)
          have HJ : Hid (((k + 1 : Nat) : Int) + 1 = ((k + 1 + 1 : Nat) : Int)) := by unfold Hid; omega
          have HLK := Lib.hid (fun w => HLL.out k w (by omega))
          have HCK := Lib.hid (HCS.out k)
          have hk12 : k + 1 ≤ 12 := by omega
          generalize hq : k + 1 = q at *
          generalize mlen y q = mq at *
          go_wp2_with fail
          refine (HLK.out _).mono ?_
          rintro e _ ⟨rfl, rfl⟩
          go_wp2_with fail
          go_round
          case rel => exact ⟨k + 1, _, by omega, by rw [HJ.out, hq], rfl, by rw [hq, HCK.out]; have := HZ2.out; omega⟩
          case measure => simp [intOf]; omega
        · have hkm : k + 1 = m := by omega
          rw [hkm]
          go_wp2_with fail
          go_ret2
          refine ⟨?_, Below.refl _ _⟩
          have e1 := HZ.out
          have e2 := HZ2.out
          have e3 := HN.out
          rw [HJE.out] at e1
          rw [show m - 1 = k by omega] at e3
          have e4 : z2 = (num y m d : Int) - 25567 := by omega
          rw [HO.out, e4]; rfl
theorem of_any (y m d : Int) (w : World) : Calls Tryd.prog 16 #[.int .i64 y, .int .i64 m, .int .i64 d] w fun e w' => e = .returned (.tuple #[.int .i64 (ofV y m d).1, .int .i64 ((ofV y m d).2 : Nat)]) ∧ Below w.heap.size w w' := by
  by_cases h : vldI y m d
  · have h1 := h
    unfold vldI at h1
    obtain ⟨a, rfl⟩ : ∃ n : Nat, y = n := ⟨y.toNat, by omega⟩
    obtain ⟨b, rfl⟩ : ∃ n : Nat, m = n := ⟨m.toNat, by omega⟩
    obtain ⟨c, rfl⟩ : ∃ n : Nat, d = n := ⟨d.toNat, by omega⟩
    exact of_yes a b c w (vldI_nat.1 h)
  · exact of_no y m d w h
end Go.Proofs.YtaolbfbnjbpljaaDoor
