/- Walks: Text and Parse, by the reference. -/
import Derived.Test.YtaolbfbnjbpljaaGreatDoorC1
import Derived.Test.YtaolbfbnjbpljaaGreatDoorE4
import Derived.Test.YtaolbfbnjbpljaaGreatDoorC2
import Derived.Deep.RegionHeld
import Derived.IntWalk
namespace Go.Proofs.YtaolbfbnjbpljaaGreatDoor
open Go.RowKit
attribute [local go_sem] Ext.cell Ext.frozen
attribute [local go_sem ↓] Go.wp_at_zero Go.wp_at_succ

theorem conv1 (z : Int) (c : UInt8) (hz : z = (c.toNat : Int)) (W : World) :
    (convert 94 9 (.slice (some ⟨W.heap.size, 0, none⟩) 1 1)).run Tryz.prog (W.alloc (.cells #[.int .u8 z] 5)) = .ok (.string (bs [c])) (W.alloc (.cells #[.int .u8 z] 5)) := by
  refine run_convert_bytes_back _ 94 9 5 ⟨W.heap.size, 0, none⟩ 1 [c] Tryz.underlying94 Tryz.underlying5 Tryz.underlying9 ?_
  intro j hj
  obtain rfl : j = 0 := by simp at hj; exact hj
  subst hz
  simp [go_sem, Addr.add]
theorem conv1_at (z : Int) (c : UInt8) (hz : z = (c.toNat : Int)) (W : World) (b : Nat) (h : W.cell? ⟨b, 0, none⟩ = some (.int .u8 z)) :
    (convert 94 9 (.slice (some ⟨b, 0, none⟩) 1 1)).run Tryz.prog W = .ok (.string (bs [c])) W := by
  refine run_convert_bytes_back _ 94 9 5 ⟨b, 0, none⟩ 1 [c] Tryz.underlying94 Tryz.underlying5 Tryz.underlying9 ?_
  intro j hj
  obtain rfl : j = 0 := by simp at hj; exact hj
  subst hz
  exact h
set_option maxRecDepth 20000 in
set_option maxHeartbeats 1000000 in
theorem rdig_one (n wd : Nat) (w : World) (h : n < 10) (hw : wd ≤ 1) : Calls Tryz.prog 35 #[.int .i64 (n : Int), .int .i64 (wd : Int)] w fun e w' => e = .returned (.string (bs [dgt n])) ∧ Below w.heap.size w w' := by
  have h1 : (wd : Int) ≤ 1 := by omega
  have h2 : (n : Int) < 10 := by omega
  have kc := conv1 (48 + (n : Int)) (dgt n) (by rw [dgt_nat h]; omega)
  go_enter Tryz.func35, Tryz.ntmps35
  go_wp2_with fail
  go_ret
  exact ⟨rfl, (Below.refl _ _).alloc (Nat.le_refl _) _⟩
set_option maxRecDepth 20000 in
set_option maxHeartbeats 1000000 in
theorem rdig_more (n wd : Nat) (l : List UInt8) (w : World) (h : n < 10000) (hw : wd ≤ 4) (hc : 2 ≤ wd ∨ 10 ≤ n) (hl : l.length ≤ 10)
    (H : ∀ w, Calls Tryz.prog 35 #[.int .i64 ((n / 10 : Nat) : Int), .int .i64 ((wd : Int) - 1)] w fun e w' => e = .returned (.string (bs l)) ∧ Below w.heap.size w w') :
    Calls Tryz.prog 35 #[.int .i64 (n : Int), .int .i64 (wd : Int)] w fun e w' => e = .returned (.string (bs (l ++ [dgt (n % 10)]))) ∧ Below w.heap.size w w' := by
  have HH : Hid (∀ w, Calls Tryz.prog 35 #[.int .i64 ((n : Int) / 10), .int .i64 ((wd : Int) - 1)] w fun e w' => e = .returned (.string (bs l)) ∧ Below w.heap.size w w') := fun w => by
    have := H w
    rwa [show ((n / 10 : Nat) : Int) = (n : Int) / 10 by omega] at this
  have hz : 48 + (n : Int) % 10 = ((dgt (n % 10)).toNat : Int) := by rw [dgt_nat (by omega)]; omega
  have kc := conv1 (48 + (n : Int) % 10) (dgt (n % 10)) hz
  have ka := conv1_at (48 + (n : Int) % 10) (dgt (n % 10)) hz
  have HA : Hid (bs l ++ bs [dgt (n % 10)] = bs (l ++ [dgt (n % 10)])) := bs_append _ _
  have s1 : (bs l).size ≤ 10 := by rw [bs_size]; exact hl
  have s2 : (bs [dgt (n % 10)]).size ≤ 10 := by rw [bs_size]; simp
  clear H hl hz
  generalize bs l = L at *
  generalize bs [dgt (n % 10)] = D at *
  have q1 : (n : Int).tdiv 10 = (n : Int) / 10 := Int.tdiv_eq_ediv_of_nonneg (by omega)
  have q0 : IntKind.i64.wrap ((n : Int) / 10) = (n : Int) / 10 := IntWalk.i64_in _ (by omega)
  have q2 : IntKind.i64.wrap ((wd : Int) - 1) = (wd : Int) - 1 := IntWalk.i64_in _ (by omega)
  have q3 : (n : Int).tmod 10 = (n : Int) % 10 := Int.tmod_eq_emod_of_nonneg (by omega)
  have q4 : IntKind.i64.wrap (48 + (n : Int) % 10) = 48 + (n : Int) % 10 := IntWalk.i64_in _ (by omega)
  have q5 : IntKind.u8.wrap (48 + (n : Int) % 10) = 48 + (n : Int) % 10 := by rw [IntKind.wrap_u8]; omega
  have h9 : ¬ 9223372036854775807 < L.size + D.size := by omega
  rcases Nat.lt_or_ge 1 wd with h1 | h1
  · have h2 : ¬ (wd : Int) ≤ 1 := by omega
    go_enter Tryz.func35, Tryz.ntmps35
    go_wp2_with fail
    go_region_held (fun _ => True) (trivial) ((go_at_call 35; (with_reducible refine (Calls.toExt (HH.out _)).mono ?_); rintro e _ ⟨rfl, x, rfl⟩))
    all_goals
      go_wp2_with fail
      go_ret
      refine ⟨by rw [← HA.out]; rfl, ?_⟩
      show Bel w _
      repeat (first | exact Bel.refl _ | refine Bel.drew ?_ | refine Bel.alloc ?_ _ | refine Bel.ext ?_ _)
  · have h2 : (wd : Int) ≤ 1 := by omega
    have h3 : ¬ (n : Int) < 10 := by omega
    go_enter Tryz.func35, Tryz.ntmps35
    go_wp2_with fail
    go_region_held (fun _ => True) (trivial) ((go_at_call 35; (with_reducible refine (Calls.toExt (HH.out _)).mono ?_); rintro e _ ⟨rfl, x, rfl⟩))
    all_goals
      go_wp2_with fail
      go_ret
      refine ⟨by rw [← HA.out]; rfl, ?_⟩
      show Bel w _
      repeat (first | exact Bel.refl _ | refine Bel.drew ?_ | refine Bel.alloc ?_ _ | refine Bel.ext ?_ _)
theorem dgt_div (n : Nat) : n / 10 / 10 = n / 100 := by omega
theorem rdig_two (n : Nat) (w : World) (h : n < 100) : Calls Tryz.prog 35 #[.int .i64 (n : Int), .int .i64 2] w fun e w' => e = .returned (.string (bs (d2 n))) ∧ Below w.heap.size w w' := by
  have := rdig_more n 2 [dgt (n / 10)] w (by omega) (by omega) (by omega) (by simp) (fun w => rdig_one (n / 10) 1 w (by omega) (by omega))
  exact this
theorem rdig_four (n : Nat) (w : World) (h : n < 10000) : Calls Tryz.prog 35 #[.int .i64 (n : Int), .int .i64 4] w fun e w' => e = .returned (.string (bs (d4 n))) ∧ Below w.heap.size w w' := by
  have h2 : ∀ w, Calls Tryz.prog 35 #[.int .i64 ((n / 10 / 10 : Nat) : Int), .int .i64 2] w fun e w' => e = .returned (.string (bs [dgt (n / 10 / 10 / 10), dgt (n / 10 / 10 % 10)])) ∧ Below w.heap.size w w' := fun w => rdig_two (n / 10 / 10) w (by omega)
  have h3 : ∀ w, Calls Tryz.prog 35 #[.int .i64 ((n / 10 : Nat) : Int), .int .i64 3] w fun e w' => e = .returned (.string (bs [dgt (n / 10 / 10 / 10), dgt (n / 10 / 10 % 10), dgt (n / 10 % 10)])) ∧ Below w.heap.size w w' := fun w =>
    rdig_more (n / 10) 3 [dgt (n / 10 / 10 / 10), dgt (n / 10 / 10 % 10)] w (by omega) (by omega) (by omega) (by simp) h2
  have h4 := rdig_more n 4 [dgt (n / 10 / 10 / 10), dgt (n / 10 / 10 % 10), dgt (n / 10 % 10)] w (by omega) (by omega) (by omega) (by simp) h3
  have e : d4 n = [dgt (n / 10 / 10 / 10), dgt (n / 10 / 10 % 10), dgt (n / 10 % 10)] ++ [dgt (n % 10)] := by
    unfold d4
    rw [show n / 10 / 10 / 10 = n / 1000 by omega, show n / 10 / 10 = n / 100 by omega]; rfl
  rw [e]
  exact h4
theorem rtext_any (n : Int) (w : World) : Calls Tryz.prog 16 #[.int .i64 n] w fun e w' => e = .returned (.string (bs (txtV n))) ∧ Below w.heap.size w w' := by
  have HC := Lib.hid (fun w => rcivil_any n w)
  by_cases h : -25567 ≤ n ∧ n ≤ 84005
  · obtain ⟨y, m, d, hv, hn, hc⟩ := civV_ok h
    have HO : Hid (bs (txtV n) = bs (d4 y) ++ ⟨#[45]⟩ ++ bs (d2 m) ++ ⟨#[45]⟩ ++ bs (d2 d)) := by
      unfold Hid
      rw [hn, txtV_of hv, show (⟨#[45]⟩ : ByteArray) = bs [45] from rfl, bs_append, bs_append, bs_append, bs_append]
      unfold txtD
      congr 1
    obtain ⟨b1, b2, b3⟩ := vld_bd hv
    have HI := Lib.hid (fun w => rdig_four y w b1)
    have HM := Lib.hid (fun w => rdig_two m w b2)
    have HD := Lib.hid (fun w => rdig_two d w b3)
    have s1 : (bs (d4 y)).size ≤ 10 := by rw [bs_size]; simp [d4]
    have s2 : (bs (d2 m)).size ≤ 10 := by rw [bs_size]; simp [d2]
    have s3 : (bs (d2 d)).size ≤ 10 := by rw [bs_size]; simp [d2]
    rw [hc] at HC
    clear hc hn hv h b1 b2 b3
    generalize bs (d4 y) = t1 at *
    generalize bs (d2 m) = t2 at *
    generalize bs (d2 d) = t3 at *
    go_enter Tryz.func16, Tryz.ntmps16
    go_wp2_with fail
    refine (Calls.toExt (HC.out _)).mono ?_
    rintro e _ ⟨rfl, x0, rfl⟩
    go_wp2_with fail
    refine (Calls.toExt (HI.out _)).mono ?_
    rintro e _ ⟨rfl, x1, rfl⟩
    go_wp2_with fail
    refine (Calls.toExt (HM.out _)).mono ?_
    rintro e _ ⟨rfl, x2, rfl⟩
    go_wp2_with fail
    refine (Calls.toExt (HD.out _)).mono ?_
    rintro e _ ⟨rfl, x3, rfl⟩
    go_wp2_with fail
    go_ret
    exact ⟨by rw [HO.out]; rfl, (((Bel.refl w).ext x0).ext x1 |>.ext x2).ext x3⟩
  · have HO : Hid (bs (txtV n) = ⟨#[]⟩) := by unfold Hid; rw [txtV_no (by omega)]; rfl
    have hc : civV n = (0, 0, 0, 2) := civV_no (by omega)
    rw [hc] at HC
    clear hc h
    go_enter Tryz.func16, Tryz.ntmps16
    go_wp2_with fail
    refine (Calls.toExt (HC.out _)).mono ?_
    rintro e _ ⟨rfl, x0, rfl⟩
    go_wp2_with fail
    go_ret
    exact ⟨by rw [HO.out]; rfl, (Bel.refl w).ext x0⟩
end Go.Proofs.YtaolbfbnjbpljaaGreatDoor
