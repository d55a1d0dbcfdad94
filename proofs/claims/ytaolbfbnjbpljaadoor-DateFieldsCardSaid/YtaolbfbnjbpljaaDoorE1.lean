/- Walks: leap years, the days of a month and of a year. -/
import Derived.Test.YtaolbfbnjbpljaaDoorK
import Derived.Test.YtaolbfbnjbpljaaDoorR
import Derived.Test.YtaolbfbnjbpljaaDoorD3
import Derived.Deep.DrawnRows
namespace Go.Proofs.YtaolbfbnjbpljaaDoor
open Go.RowKit
attribute [local go_sem] Ext.cell Ext.frozen
attribute [local go_sem ↓] Go.wp_at_zero Go.wp_at_succ

theorem leap_any (y : Nat) (w : World) (hy : y ≤ 10000) : Calls Tryd.prog 70 #[.int .i64 (y : Int)] w fun e w' => e = .returned (.bool (leapB y)) ∧ w = w' := by
  obtain ⟨a, ha⟩ : ∃ a, ((y : Int) % 4 == 0) = a := ⟨_, rfl⟩
  obtain ⟨b, hb⟩ : ∃ b, ((y : Int) % 100 != 0) = b := ⟨_, rfl⟩
  obtain ⟨c, hc⟩ : ∃ c, ((y : Int) % 400 == 0) = c := ⟨_, rfl⟩
  have HO : Hid (leapB y = (a && b || c)) := by
    unfold Hid leapB
    rw [← ha, ← hb, ← hc]
    have e1 : (y % 4 == 0) = ((y : Int) % 4 == 0) := by rw [Bool.eq_iff_iff]; simp; omega
    have e2 : (y % 100 != 0) = ((y : Int) % 100 != 0) := by rw [Bool.eq_iff_iff]; simp; omega
    have e3 : (y % 400 == 0) = ((y : Int) % 400 == 0) := by rw [Bool.eq_iff_iff]; simp; omega
    rw [e1, e2, e3]
  cases a <;> cases b <;> cases c
  all_goals
    go_enter Tryd.func70, Tryd.ntmps70
    go_wp2_with fail
    go_ret
    exact ⟨ret_bool HO.out.symm, rfl⟩
theorem rleap_any (y : Nat) (w : World) (hy : y ≤ 10000) : Calls Tryd.prog 42 #[.int .i64 (y : Int)] w fun e w' => e = .returned (.bool (leapB y)) ∧ w = w' := by
  obtain ⟨a, ha⟩ : ∃ a, ((y : Int) % 4 == 0) = a := ⟨_, rfl⟩
  obtain ⟨b, hb⟩ : ∃ b, ((y : Int) % 100 != 0) = b := ⟨_, rfl⟩
  obtain ⟨c, hc⟩ : ∃ c, ((y : Int) % 400 == 0) = c := ⟨_, rfl⟩
  have HO : Hid (leapB y = (a && b || c)) := by
    unfold Hid leapB
    rw [← ha, ← hb, ← hc]
    have e1 : (y % 4 == 0) = ((y : Int) % 4 == 0) := by rw [Bool.eq_iff_iff]; simp; omega
    have e2 : (y % 100 != 0) = ((y : Int) % 100 != 0) := by rw [Bool.eq_iff_iff]; simp; omega
    have e3 : (y % 400 == 0) = ((y : Int) % 400 == 0) := by rw [Bool.eq_iff_iff]; simp; omega
    rw [e1, e2, e3]
  cases a <;> cases b <;> cases c
  all_goals
    go_enter Tryd.func42, Tryd.ntmps42
    go_wp2_with fail
    go_ret
    exact ⟨ret_bool HO.out.symm, rfl⟩
theorem year_any (y : Nat) (w : World) (hy : y ≤ 10000) : Calls Tryd.prog 40 #[.int .i64 (y : Int)] w fun e w' => e = .returned (.int .i64 (ylen y : Nat)) ∧ w = w' := by
  have HL := Lib.hid (fun w => leap_any y w hy)
  have HO : Hid (ylen y = if leapB y then 366 else 365) := rfl
  cases hl : leapB y
  all_goals
    rw [hl] at HL HO
    clear hl
    go_enter Tryd.func40, Tryd.ntmps40
    go_wp2_with fail
    refine (HL.out _).mono ?_
    rintro e _ ⟨rfl, rfl⟩
    go_wp2_with fail
    go_ret
    exact ⟨by rw [HO.out]; rfl, rfl⟩

theorem mix0 (w : World) : (Instr.index 117 (.agg #[.int .i64 31, .int .i64 28, .int .i64 31, .int .i64 30, .int .i64 31, .int .i64 30, .int .i64 31, .int .i64 31, .int .i64 30, .int .i64 31, .int .i64 30, .int .i64 31]) (.int .i64 0)).run Tryd.prog w = .ok (.int .i64 31) w := by kernel_rfl
theorem mix1 (w : World) : (Instr.index 117 (.agg #[.int .i64 31, .int .i64 28, .int .i64 31, .int .i64 30, .int .i64 31, .int .i64 30, .int .i64 31, .int .i64 31, .int .i64 30, .int .i64 31, .int .i64 30, .int .i64 31]) (.int .i64 1)).run Tryd.prog w = .ok (.int .i64 28) w := by kernel_rfl
theorem mix2 (w : World) : (Instr.index 117 (.agg #[.int .i64 31, .int .i64 28, .int .i64 31, .int .i64 30, .int .i64 31, .int .i64 30, .int .i64 31, .int .i64 31, .int .i64 30, .int .i64 31, .int .i64 30, .int .i64 31]) (.int .i64 2)).run Tryd.prog w = .ok (.int .i64 31) w := by kernel_rfl
theorem mix3 (w : World) : (Instr.index 117 (.agg #[.int .i64 31, .int .i64 28, .int .i64 31, .int .i64 30, .int .i64 31, .int .i64 30, .int .i64 31, .int .i64 31, .int .i64 30, .int .i64 31, .int .i64 30, .int .i64 31]) (.int .i64 3)).run Tryd.prog w = .ok (.int .i64 30) w := by kernel_rfl
theorem mix4 (w : World) : (Instr.index 117 (.agg #[.int .i64 31, .int .i64 28, .int .i64 31, .int .i64 30, .int .i64 31, .int .i64 30, .int .i64 31, .int .i64 31, .int .i64 30, .int .i64 31, .int .i64 30, .int .i64 31]) (.int .i64 4)).run Tryd.prog w = .ok (.int .i64 31) w := by kernel_rfl
theorem mix5 (w : World) : (Instr.index 117 (.agg #[.int .i64 31, .int .i64 28, .int .i64 31, .int .i64 30, .int .i64 31, .int .i64 30, .int .i64 31, .int .i64 31, .int .i64 30, .int .i64 31, .int .i64 30, .int .i64 31]) (.int .i64 5)).run Tryd.prog w = .ok (.int .i64 30) w := by kernel_rfl
theorem mix6 (w : World) : (Instr.index 117 (.agg #[.int .i64 31, .int .i64 28, .int .i64 31, .int .i64 30, .int .i64 31, .int .i64 30, .int .i64 31, .int .i64 31, .int .i64 30, .int .i64 31, .int .i64 30, .int .i64 31]) (.int .i64 6)).run Tryd.prog w = .ok (.int .i64 31) w := by kernel_rfl
theorem mix7 (w : World) : (Instr.index 117 (.agg #[.int .i64 31, .int .i64 28, .int .i64 31, .int .i64 30, .int .i64 31, .int .i64 30, .int .i64 31, .int .i64 31, .int .i64 30, .int .i64 31, .int .i64 30, .int .i64 31]) (.int .i64 7)).run Tryd.prog w = .ok (.int .i64 31) w := by kernel_rfl
theorem mix8 (w : World) : (Instr.index 117 (.agg #[.int .i64 31, .int .i64 28, .int .i64 31, .int .i64 30, .int .i64 31, .int .i64 30, .int .i64 31, .int .i64 31, .int .i64 30, .int .i64 31, .int .i64 30, .int .i64 31]) (.int .i64 8)).run Tryd.prog w = .ok (.int .i64 30) w := by kernel_rfl
theorem mix9 (w : World) : (Instr.index 117 (.agg #[.int .i64 31, .int .i64 28, .int .i64 31, .int .i64 30, .int .i64 31, .int .i64 30, .int .i64 31, .int .i64 31, .int .i64 30, .int .i64 31, .int .i64 30, .int .i64 31]) (.int .i64 9)).run Tryd.prog w = .ok (.int .i64 31) w := by kernel_rfl
theorem mix10 (w : World) : (Instr.index 117 (.agg #[.int .i64 31, .int .i64 28, .int .i64 31, .int .i64 30, .int .i64 31, .int .i64 30, .int .i64 31, .int .i64 31, .int .i64 30, .int .i64 31, .int .i64 30, .int .i64 31]) (.int .i64 10)).run Tryd.prog w = .ok (.int .i64 30) w := by kernel_rfl
theorem mix11 (w : World) : (Instr.index 117 (.agg #[.int .i64 31, .int .i64 28, .int .i64 31, .int .i64 30, .int .i64 31, .int .i64 30, .int .i64 31, .int .i64 31, .int .i64 30, .int .i64 31, .int .i64 30, .int .i64 31]) (.int .i64 11)).run Tryd.prog w = .ok (.int .i64 31) w := by kernel_rfl
theorem month_cases {m : Nat} (h1 : 1 ≤ m) (h2 : m ≤ 12) : m = 1 ∨ m = 2 ∨ m = 3 ∨ m = 4 ∨ m = 5 ∨ m = 6 ∨ m = 7 ∨ m = 8 ∨ m = 9 ∨ m = 10 ∨ m = 11 ∨ m = 12 := by omega
set_option maxRecDepth 20000 in
set_option maxHeartbeats 2000000 in
theorem length_any (y m : Nat) (w : World) (hy : y ≤ 10000) (h1 : 1 ≤ m) (h2 : m ≤ 12) : Calls Tryd.prog 39 #[.int .i64 (y : Int), .int .i64 (m : Int)] w fun e w' => e = .returned (.int .i64 (mlen y m : Nat)) ∧ w = w' := by
  have HL := Lib.hid (fun w => leap_any y w hy)
  have HO : Hid (mlen y m = if m = 2 ∧ leapB y = true then 29 else mtab.getD (m - 1) 0) := rfl
  cases hl : leapB y <;> rw [hl] at HL HO <;> clear hl <;> rcases month_cases h1 h2 with h | h | h | h | h | h | h | h | h | h | h | h <;> subst h
  all_goals
    go_enter Tryd.func39, Tryd.ntmps39
    have i0 := mix0
    have i1 := mix1
    have i2 := mix2
    have i3 := mix3
    have i4 := mix4
    have i5 := mix5
    have i6 := mix6
    have i7 := mix7
    have i8 := mix8
    have i9 := mix9
    have i10 := mix10
    have i11 := mix11
    go_wp2_with (first | (refine (HL.out _).mono ?_; rintro e _ ⟨rfl, rfl⟩))
    go_ret
    exact ⟨by rw [HO.out]; rfl, rfl⟩
end Go.Proofs.YtaolbfbnjbpljaaDoor
