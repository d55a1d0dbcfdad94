/- Walks: the size of strings; whether a condition is short. -/
import Derived.Test.YtaolbfbnjbpljaaDoorT1
import Derived.Deep.DrawnRows
import Derived.WalkLawsBesides
namespace Go.Proofs.YtaolbfbnjbpljaaDoor
open Go.RowKit
attribute [local go_sem] Ext.cell Ext.frozen
attribute [local go_sem ↓] Go.wp_at_zero Go.wp_at_succ

theorem cellsS : Tryd.prog.cellsOf 9 = 1 := by kernel_rfl
theorem cellsRel : Tryd.prog.cellsOf 122 = 4 := by kernel_rfl
theorem cellsRels : Tryd.prog.cellsOf 119 = 1 := by kernel_rfl
set_option maxRecDepth 20000 in
theorem size_any (v : Value) (w : World) (h : StrRows w 1 v) : Calls Tryd.prog 71 #[v] w (QInt w) := by
  obtain ⟨ad, n, c, g, b, off, rfl, hr⟩ := h
  have HR := Lib.hid hr
  have hnm := hr.max
  clear hr
  go_enter Tryd.func71, Tryd.ntmps71
  go_wp2_with fail
  go_loop [3, 4] (fun u v => ∃ (k : Nat) (z : Int), v = .int .i64 (k : Int) ∧ k ≤ n ∧ u = .int .i64 z) (fun _ v => n - (intOf v).toNat)
  case atStart => exact ⟨0, 0, rfl, Nat.zero_le _, rfl⟩
  case round =>
    obtain ⟨k, z, rfl, hkn, rfl⟩ := hrel
    by_cases hlt : k < n
    · have hix := fun W => HR.out.ix 23 9 Tryd.underlying23 cellsS (by omega) hlt c W
      rw [Nat.mul_one] at hix
      have hc := HR.out.cell k 0 hlt (by omega)
      rw [Nat.mul_one, Nat.add_zero] at hc
      go_wp2_with fail
      go_round
      case rel => exact ⟨k + 1, _, by go_num, by omega, rfl⟩
      case measure => simp [intOf]; omega
    · obtain rfl : k = n := by omega
      go_wp2_with fail
      go_ret
      exact ⟨z, rfl, rfl⟩
set_option maxRecDepth 20000 in
set_option maxHeartbeats 1000000 in
theorem cfew_any (v : Value) (w : World) (h : CondOk w v) : Calls Tryd.prog 47 #[v] w (QBool w) := by
  obtain ⟨ad, n, c, f, b, off, rfl, hr, hf⟩ := h
  have HR := Lib.hid hr
  have HF := Lib.hid hf
  have hnm := hr.max
  clear hr hf
  go_enter Tryd.func47, Tryd.ntmps47
  go_wp2_with fail
  go_loop [3, 4] (fun u v => ∃ (k : Nat) (z : Int), v = .int .i64 (k : Int) ∧ k ≤ n ∧ u = .int .i64 z) (fun _ v => n - (intOf v).toNat)
  case atStart => exact ⟨0, 0, rfl, Nat.zero_le _, rfl⟩
  case round =>
    obtain ⟨k, z, rfl, hkn, rfl⟩ := hrel
    by_cases hlt : k < n
    · have hix := fun W => HR.out.ix 83 119 Tryd.underlying83 cellsRels (by omega) hlt c W
      rw [Nat.mul_one] at hix
      have hc := HR.out.cell k 0 hlt (by omega)
      rw [Nat.mul_one, Nat.add_zero] at hc
      obtain ⟨ad2, n2, c2, f2, b2, off2, hv2, hr2, hs2⟩ := HF.out k hlt
      rw [hv2] at hc
      have HR2 := Lib.hid hr2
      have HS2 := Lib.hid hs2
      have hnm2 := hr2.max
      clear hv2 hr2 hs2
      go_wp2_with fail
      go_loop [3, 5] (fun u v => ∃ (q : Nat) (z : Int), v = .int .i64 (q : Int) ∧ q ≤ n2 ∧ u = .int .i64 z) (fun _ v => n2 - (intOf v).toNat)
      case atStart => exact ⟨0, z, rfl, Nat.zero_le _, rfl⟩
      case round =>
        obtain ⟨q, z2, rfl, hqn, rfl⟩ := hrel
        by_cases hlt2 : q < n2
        · have hix2 := fun W => HR2.out.ix 119 122 Tryd.underlying119 cellsRel (by omega) hlt2 c2 W
          obtain ⟨a3, m3, c3, h3, hm3⟩ := HS2.out q hlt2
          have hc2 := HR2.out.cell q 3 hlt2 (by omega)
          rw [h3] at hc2
          clear h3
          go_wp2_with fail
          go_round
          case rel => exact ⟨q + 1, _, by go_num, by omega, rfl⟩
          case measure => simp [intOf]; omega
        · obtain rfl : q = n2 := by omega
          by_cases h80 : 80 < z2
          · go_wp2_with fail
            go_ret
            exact ⟨false, rfl, rfl⟩
          · go_wp2_with fail
            go_round
            case rel => exact ⟨k + 1, z2, by go_num, by omega, rfl⟩
            case measure => simp [intOf]; omega
    · obtain rfl : k = n := by omega
      go_wp2_with fail
      go_ret
      exact ⟨_, rfl, rfl⟩
end Go.Proofs.YtaolbfbnjbpljaaDoor
