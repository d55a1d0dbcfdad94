/- Walks: the set of slots. -/
import Derived.Test.YtboojpmahfjaoaaA1
namespace Go.Proofs.Ytboojpmahfjaoaa
open Go.RowKit
theorem cells50 : Try.prog.cellsOf 50 = 1 := by kernel_rfl
theorem pow_lt64 (e : Nat) (he : e < 64) : 2 ^ e < 18446744073709551616 := by
  have : 2 ^ e < 2 ^ 64 := Nat.pow_lt_pow_right (by omega) he
  simpa using this
theorem shl_one (e : Nat) (he : e < 64) : Op.shift .shl .u64 1 .i64 (e : Int) = pure (.int .u64 ((2 ^ e : Nat) : Int)) := by
  rw [shift_shl _ _ _ _ (by omega) (by simp [IntKind.bits]; omega)]
  have h := pow_lt64 e he
  have hw : IntKind.u64.wrap (1 * 2 ^ ((e : Int)).toNat) = ((2 ^ e : Nat) : Int) := by
    rw [IntKind.wrap_u64, Int.one_mul, Int.toNat_natCast]
    have : ((2 ^ e : Nat) : Int) = (2 : Int) ^ e := by simp
    rw [← this]
    generalize 2 ^ e = z at *
    omega
  rw [hw]

theorem bin_shl_one (e : Nat) (he : e < 64) (t : TypeId) : binOp .shl t (.int .u64 1) (.int .i64 (e : Int)) = pure (.int .u64 ((2 ^ e : Nat) : Int)) := by
  rw [binOp_shl, shl_one e he]


theorem shr_and_one (x e : Nat) (hx : x < 18446744073709551616) : (bits BinOp.and IntKind.u64 ((x : Int) / 2 ^ e) 1 != 0) = x.testBit e := by
  have h2 : ((x : Int) / 2 ^ e) = ((x / 2 ^ e : Nat) : Int) := by simp
  have h3 : x / 2 ^ e ≤ x := Nat.div_le_self _ _
  rw [h2, show (1 : Int) = ((1 : Nat) : Int) from rfl, u64_and_nat (x / 2 ^ e) 1 (by omega) (by omega)]
  rw [Nat.testBit, Nat.shiftRight_eq_div_pow]
  rw [Nat.and_comm 1]
  generalize (x / 2 ^ e) &&& 1 = z
  cases z with
  | zero => rfl
  | succ z => rw [Bool.eq_iff_iff, bne_iff_ne, bne_iff_ne]; omega

theorem and_pow (x e : Nat) (hx : x < 18446744073709551616) (he : e < 64) : (bits BinOp.and IntKind.u64 (x : Int) ((2 ^ e : Nat) : Int) != 0) = x.testBit e := by
  rw [u64_and_nat _ _ hx (pow_lt64 e he)]
  cases h : x.testBit e
  · have h0 : x &&& 2 ^ e = 0 := by
      apply Nat.eq_of_testBit_eq
      intro j
      rw [Nat.testBit_and, Nat.testBit_two_pow, Nat.zero_testBit]
      by_cases hj : e = j
      · subst hj; simp [h]
      · simp [hj]
    rw [h0]
    rfl
  · have h1 : x &&& 2 ^ e ≠ 0 := by
      intro h0
      have := congrArg (fun z => Nat.testBit z e) h0
      simp [Nat.testBit_and, h] at this
    generalize x &&& 2 ^ e = z at *
    simp
    omega

set_option maxHeartbeats 400000 in
theorem has_any (b i x : Nat) (w : World) (hi : i < 1000) (hc : w.cell? ⟨b, i / 64, none⟩ = some (.int .u64 x)) (hx : x < 18446744073709551616) :
    Calls Try.prog 30 #[.pointer (some ⟨b, 0, none⟩), .int .i64 i] w fun e w' => e = .returned (.bool (x.testBit (i % 64))) ∧ w = w' := by
  have HX := Lib.hid (shr_and_one x (i % 64) hx)
  have hx' : (x : Int) < 18446744073709551616 := by omega
  clear hx
  go_enter Try.func30, Try.ntmps30
  go_wp2
  go_ret
  exact ⟨ret_bool HX.out, rfl⟩

set_option maxHeartbeats 400000 in
theorem add_no (b i x : Nat) (w : World) (hi : i < 1000) (hc : w.cell? ⟨b, i / 64, none⟩ = some (.int .u64 x)) (hx : x < 18446744073709551616) (ht : x.testBit (i % 64) = true) :
    Calls Try.prog 31 #[.pointer (some ⟨b, 0, none⟩), .int .i64 i] w fun e w' => e = .returned (.bool false) ∧ w = w' := by
  have hsh := bin_shl_one (i % 64) (by omega) 50
  rw [show ((i % 64 : Nat) : Int) = (i : Int) % 64 by omega] at hsh
  have hne := (and_pow x (i % 64) hx (by omega)).trans ht
  clear hx
  generalize 2 ^ (i % 64) = p at *
  go_enter Try.func31, Try.ntmps31
  go_wp2
  go_ret
  exact ⟨rfl, rfl⟩

set_option maxHeartbeats 400000 in
theorem add_yes (b i x : Nat) (w : World) (hi : i < 1000) (hc : w.cell? ⟨b, i / 64, none⟩ = some (.int .u64 x)) (hf : w.frozen? ⟨b, i / 64, none⟩ = false) (hx : x < 18446744073709551616) (ht : x.testBit (i % 64) = false) :
    Calls Try.prog 31 #[.pointer (some ⟨b, 0, none⟩), .int .i64 i] w fun e w' => e = .returned (.bool true) ∧ ∃ n, w' = (w.setCell ⟨b, i / 64, none⟩ (.int .u64 ((x ||| 2 ^ (i % 64) : Nat) : Int))).drewN n := by
  have hsh := bin_shl_one (i % 64) (by omega) 50
  rw [show ((i % 64 : Nat) : Int) = (i : Int) % 64 by omega] at hsh
  have hne := (and_pow x (i % 64) hx (by omega)).trans ht
  have hor := u64_or_nat x (2 ^ (i % 64)) hx (pow_lt64 _ (by omega))
  clear hx
  generalize 2 ^ (i % 64) = p at *
  generalize x ||| p = y at *
  go_enter Try.func31, Try.ntmps31
  go_wp2
  go_region
  all_goals go_wp2
  all_goals go_ret
  all_goals exact ⟨rfl, 1, rfl⟩
end Go.Proofs.Ytboojpmahfjaoaa
