/- Walks: whether values are few. -/
import Derived.Test.YtadhblppeaamlaaGreatDoorSK
namespace Go.Proofs.YtadhblppeaamlaaGreatDoor
open Go.RowKit
attribute [local go_sem] Ext.cell Ext.frozen
attribute [local go_sem ↓] Go.wp_at_zero Go.wp_at_succ

/-- short texts -/
def FewV (vs : List Vl) : Prop := ∀ v ∈ vs, v.tx.size ≤ 200
def vz : Vl := ⟨.empty, 0, .empty, 0, []⟩
set_option maxRecDepth 20000 in
set_option maxHeartbeats 4000000 in
theorem vfew_any (v : Value) (vs : List Vl) (w : World) (h : ValsAt w v vs) : Calls Tryz.prog 19 #[v] w (BoolIf w (FewV vs)) := by
  obtain ⟨ad, c, f, b, off, rfl, hr, _, _, _, hf⟩ := h
  obtain ⟨n, hn⟩ : ∃ n, vs.length = n := ⟨_, rfl⟩
  rw [hn] at hr ⊢
  have hnm := hr.max
  have HN := Lib.hid hn
  have HR := Lib.hid hr
  have HF := Lib.hid hf
  clear hr hf hn
  go_enter Tryz.func19, Tryz.ntmps19
  go_wp2_with fail
  go_loop [3] (fun v => ∃ k : Nat, v = .int .i64 (k : Int) ∧ k ≤ n ∧ (∀ i, i < k → (vs.getD i vz).tx.size ≤ 200)) (fun v => n - (intOf v).toNat)
  case atStart => exact ⟨0, rfl, Nat.zero_le _, fun i hi => absurd hi (Nat.not_lt_zero _)⟩
  case round =>
    obtain ⟨k, rfl, hkn, hal⟩ := hrel
    have HAL := Lib.hid hal
    clear hal
    by_cases hlt : k < n
    · have hix := fun W => HR.out.ix 35 46 Tryz.underlying35 (by kernel_rfl) (by omega) hlt c W
      have hk0 : k < vs.length := by rw [HN.out]; exact hlt
      have c0 : w.cell? ⟨b, off + k * 5, none⟩ = some (f k 0) := HR.out.cell k 0 hlt (by omega)
      have c2 : w.cell? ⟨b, off + k * 5 + 2, none⟩ = some (f k 2) := HR.out.cell k 2 hlt (by omega)
      have c4 : w.cell? ⟨b, off + k * 5 + 4, none⟩ = some (f k 4) := HR.out.cell k 4 hlt (by omega)
      obtain ⟨f0, s0, _, f2, s2, _, ad4, cc4, g, b4, off4, f4, hr4, _, _, hm4, hg⟩ := RowsOf.get HF.out hk0 vz
      rw [f0] at c0
      rw [f2] at c2
      rw [f4] at c4
      have HYES : Hid ((vs.getD k vz).tx.size ≤ 200 → ∀ i, i < k + 1 → (vs.getD i vz).tx.size ≤ 200) := fun h i hi => by
        by_cases e : i = k
        · subst e; exact h
        · exact HAL.out i (by omega)
      clear f0 f2 f4 hk0
      generalize (vs.getD k vz).nm = nm at *
      generalize (vs.getD k vz).tx = tx at *
      generalize (vs.getD k vz).li = li at *
      obtain ⟨m, hm⟩ : ∃ m, li.length = m := ⟨_, rfl⟩
      rw [hm] at hr4 c4 hm4
      have HM := Lib.hid hm
      have HR4 := Lib.hid hr4
      have HG := Lib.hid hg
      clear hm hr4 hg
      go_wp2_with fail
      go_loop [4, 5] (fun u v => ∃ (q : Nat) (z : Int), v = .int .i64 (q : Int) ∧ q ≤ m ∧ u = .int .i64 z ∧ (tx.size : Int) ≤ z) (fun _ v => m - (intOf v).toNat)
      case atStart => exact ⟨0, _, rfl, Nat.zero_le _, rfl, Int.le_refl _⟩
      case round =>
        obtain ⟨q, z, rfl, hqm, rfl, hz⟩ := hrel
        by_cases hlt2 : q < m
        · have hix2 := fun W => HR4.out.ix 28 9 Tryz.underlying28 (by kernel_rfl) (by omega) hlt2 cc4 W
          rw [Nat.mul_one] at hix2
          have d0 : w.cell? ⟨b4, off4 + q * 1, none⟩ = some (g q 0) := HR4.out.cell q 0 hlt2 (by omega)
          rw [Nat.mul_one] at d0
          obtain ⟨g0, gs⟩ := RowsOf.get HG.out (show q < li.length by rw [HM.out]; exact hlt2) ByteArray.empty
          rw [g0] at d0
          clear g0
          generalize li.getD q .empty = st at *
          go_wp2_with fail
          go_round
          case rel => exact ⟨q + 1, _, by go_num, by omega, rfl, by omega⟩
          case measure => simp [intOf]; omega
        · obtain rfl : q = m := by omega
          by_cases h1 : 200 < z
          · go_wp2_with fail
            go_ret
            exact ⟨false, rfl, rfl, fun h => by cases h⟩
          by_cases h2 : 12 < (q : Int)
          · go_wp2_with fail
            go_ret
            exact ⟨false, rfl, rfl, fun h => by cases h⟩
          by_cases h3 : 60 < (nm.size : Int)
          · go_wp2_with fail
            go_ret
            exact ⟨false, rfl, rfl, fun h => by cases h⟩
          have HO := Lib.hid (HYES.out (by omega))
          clear HYES
          go_wp2_with fail
          go_round
          case rel => exact ⟨k + 1, by go_num, by omega, HO.out⟩
          case measure => simp [intOf]; omega
    · obtain rfl : k = n := by omega
      go_wp2_with fail
      go_ret
      exact ⟨_, rfl, rfl, fun _ => fun r hr => by
        obtain ⟨i, hi, rfl⟩ := List.getElem_of_mem hr
        have := HAL.out i (by rw [← HN.out]; exact hi)
        simpa [List.getD, List.getElem?_eq_getElem hi] using this⟩
end Go.Proofs.YtadhblppeaamlaaGreatDoor
