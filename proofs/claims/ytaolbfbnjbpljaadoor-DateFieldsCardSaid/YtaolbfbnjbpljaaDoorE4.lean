/- Walks: the text of a date, by the program. -/
import Derived.Test.YtaolbfbnjbpljaaDoorE3
import Derived.Test.YtaolbfbnjbpljaaDoorShelf
import Derived.Lib.AppendIntMem
namespace Go.Proofs.YtaolbfbnjbpljaaDoor
open Go.RowKit
attribute [local go_sem] Ext.cell Ext.frozen
attribute [local go_sem ↓] Go.wp_at_zero Go.wp_at_succ

/-- the library's table of powers of ten stands, and goes on standing -/
def Tab10 (w : World) : Prop := Lib.TabBelow Tryd.prog w.heap.size w "internal/strconv.uint64pow10" .u64 Lib.pow10Tab
theorem Tab10.on {w w' : World} (h : Tab10 w) (hb : Below w.heap.size w w') : Tab10 w' := fun w2 h2 => h w2 (hb.trans (h2.mono hb.size))
theorem itoa_any (n : Nat) (w : World) (ht : Tab10 w) (h : n ≤ 1000000) : Calls Tryd.prog 35 #[.int .i64 (n : Int)] w fun e w' => e = .returned (.string (bs (Lib.decDigits n))) ∧ Below w.heap.size w w' :=
  (Tryd.strconv_Itoa (n : Int) (by omega) (by omega) w ht.here).mono fun e w' ⟨he, k, os, hw⟩ => ⟨by
    rw [he]; unfold Lib.itoa; rw [if_neg (by omega), Int.toNat_natCast]; rfl, by rw [hw]; exact Lib.below_grow _ w (Nat.le_refl _) k os⟩
theorem itoa_small (n : Nat) (w : World) (h : n < 100) : Calls Tryd.prog 35 #[.int .i64 (n : Int)] w fun e w' => e = .returned (.string (bs (Lib.decDigits n))) ∧ w = w' :=
  (Tryd.strconv_Itoa_small n h w).mono fun _e _w' ⟨he, hw⟩ => ⟨he, hw.symm⟩

theorem padded_any (n : Nat) (w : World) (h : n < 100) : Calls Tryd.prog 46 #[.int .i64 (n : Int)] w fun e w' => e = .returned (.string (bs (d2 n))) ∧ w = w' := by
  have HI := Lib.hid (fun w => itoa_small n w h)
  by_cases h1 : n < 10
  · have HO : Hid (bs (d2 n) = ⟨#[48]⟩ ++ bs (Lib.decDigits n)) := by
      unfold Hid
      rw [dec_1 h1, show (⟨#[48]⟩ : ByteArray) = bs [48] from rfl, bs_append]
      unfold d2
      rw [show n / 10 = 0 by omega, show n % 10 = n by omega]; rfl
    have hsz : (bs (Lib.decDigits n)).size ≤ 10 := by rw [bs_size, dec_1 h1]; simp
    generalize bs (Lib.decDigits n) = t at *
    go_enter Tryd.func46, Tryd.ntmps46
    go_wp2_with fail
    refine (HI.out _).mono ?_
    rintro e _ ⟨rfl, rfl⟩
    go_wp2_with fail
    go_ret
    exact ⟨by rw [HO.out]; rfl, rfl⟩
  · have HO : Hid (bs (d2 n) = bs (Lib.decDigits n)) := by
      unfold Hid
      rw [dec_2 (by omega) (by omega)]
    go_enter Tryd.func46, Tryd.ntmps46
    go_wp2_with fail
    refine (HI.out _).mono ?_
    rintro e _ ⟨rfl, rfl⟩
    go_wp2_with fail
    go_ret
    exact ⟨by rw [HO.out]; rfl, rfl⟩

/-- what Text answers -/
noncomputable def txtV (n : Int) : List UInt8 := if -25567 ≤ n ∧ n ≤ 84005 then txtD (civil (n + 25567).toNat).1 (civil (n + 25567).toNat).2.1 (civil (n + 25567).toNat).2.2 else []
theorem txtV_no {n : Int} (h : n < -25567 ∨ 84005 < n) : txtV n = [] := by unfold txtV; rw [if_neg (by omega)]
theorem txtV_of {y m d : Nat} (h : vldP y m d) : txtV ((num y m d : Int) - 25567) = txtD y m d := by
  have := num_lt h
  unfold txtV
  rw [if_pos (by omega), show ((num y m d : Int) - 25567 + 25567).toNat = num y m d by omega, civil_of h]

set_option maxHeartbeats 2000000 in
theorem text_any (n : Int) (w : World) (ht : Tab10 w) : Calls Tryd.prog 24 #[.int .i64 n] w fun e w' => e = .returned (.string (bs (txtV n))) ∧ Below w.heap.size w w' := by
  have HC := Lib.hid (fun w => civil_any n w)
  by_cases h : -25567 ≤ n ∧ n ≤ 84005
  · obtain ⟨y, m, d, hv, hn, hc⟩ := civV_ok h
    have HO : Hid (bs (txtV n) = bs (Lib.decDigits y) ++ ⟨#[45]⟩ ++ bs (d2 m) ++ ⟨#[45]⟩ ++ bs (d2 d)) := by
      unfold Hid
      rw [hn, txtV_of hv, dec_4 (by have := hv.1; omega) (by have := hv.2.1; omega), show (⟨#[45]⟩ : ByteArray) = bs [45] from rfl, bs_append, bs_append, bs_append, bs_append]
      unfold txtD
      congr 1
    obtain ⟨b1, b2, b3⟩ := vld_bd hv
    have HI := Lib.hid (fun w (ht : Tab10 w) => itoa_any y w ht (by omega))
    have HM := Lib.hid (fun w => padded_any m w b2)
    have HD := Lib.hid (fun w => padded_any d w b3)
    have s1 : (bs (Lib.decDigits y)).size ≤ 10 := by rw [bs_size, dec_4 (by have := hv.1; omega) (by omega)]; simp [d4]
    have s2 : (bs (d2 m)).size ≤ 10 := by rw [bs_size]; simp [d2]
    have s3 : (bs (d2 d)).size ≤ 10 := by rw [bs_size]; simp [d2]
    rw [hc] at HC
    have HT := Lib.hid ht
    clear hc hn hv h ht b1 b2 b3
    generalize bs (Lib.decDigits y) = t1 at *
    generalize bs (d2 m) = t2 at *
    generalize bs (d2 d) = t3 at *
    go_enter Tryd.func24, Tryd.ntmps24
    go_wp2_with fail
    refine (HC.out _).mono ?_
    rintro e _ ⟨rfl, rfl⟩
    go_wp2_with fail
    refine (Calls.toExt (HI.out _ HT.out)).mono ?_
    rintro e _ ⟨rfl, x, rfl⟩
    go_wp2_with fail
    refine (HM.out _).mono ?_
    rintro e _ ⟨rfl, rfl⟩
    go_wp2_with fail
    refine (HD.out _).mono ?_
    rintro e _ ⟨rfl, rfl⟩
    go_wp2_with fail
    go_ret
    exact ⟨by rw [HO.out]; rfl, x.2⟩
  · have HO : Hid (bs (txtV n) = ⟨#[]⟩) := by unfold Hid; rw [txtV_no (by omega)]; rfl
    have hc : civV n = (0, 0, 0, 2) := civV_no (by omega)
    rw [hc] at HC
    clear hc h
    go_enter Tryd.func24, Tryd.ntmps24
    go_wp2_with fail
    refine (HC.out _).mono ?_
    rintro e _ ⟨rfl, rfl⟩
    go_wp2_with fail
    go_ret
    exact ⟨by rw [HO.out]; rfl, Below.refl _ _⟩
end Go.Proofs.YtaolbfbnjbpljaaDoor
