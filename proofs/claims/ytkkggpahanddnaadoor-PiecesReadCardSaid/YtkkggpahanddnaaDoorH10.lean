/- Walks: whether a layout is valid, by the reference and by the program. -/
import Derived.Test.YtkkggpahanddnaaDoorH9
import Derived.IntWalk
namespace Go.Proofs.YtkkggpahanddnaaDoor
open Go.RowKit
attribute [local go_sem] Ext.cell Ext.frozen
attribute [local go_sem ↓] Go.wp_at_zero Go.wp_at_succ
theorem okAt_lo {ps : List (Int × ByteArray)} {n : Int} {k : Nat} (h : (ps.getD k (0, .empty)).1 < 0) : okAt ps n k = false := by
  unfold okAt; rw [decide_eq_false (by omega)]; rfl
theorem okAt_hi {ps : List (Int × ByteArray)} {n : Int} {k : Nat} (h : n < (ps.getD k (0, .empty)).1 - 1) : okAt ps n k = false := by
  unfold okAt; rw [decide_eq_false (p := (ps.getD k (0, .empty)).1 - 1 ≤ n) (by omega), Bool.and_false]; rfl
theorem okAt_ord {ps : List (Int × ByteArray)} {n : Int} {j : Nat} (h : (ps.getD (j + 1) (0, .empty)).1 ≤ (ps.getD j (0, .empty)).1) : okAt ps n (j + 1) = false := by
  unfold okAt
  rw [decide_eq_false (p := j + 1 = 0) (by omega), Nat.add_sub_cancel, decide_eq_false (p := (ps.getD j (0, .empty)).1 < (ps.getD (j + 1) (0, .empty)).1) (by omega)]
  simp
theorem okAt_first {ps : List (Int × ByteArray)} {n : Int} (h1 : 0 ≤ (ps.getD 0 (0, .empty)).1) (h2 : (ps.getD 0 (0, .empty)).1 - 1 ≤ n) : okAt ps n 0 = true := by
  unfold okAt; rw [decide_eq_true h1, decide_eq_true h2]; rfl
theorem okAt_next {ps : List (Int × ByteArray)} {n : Int} {j : Nat} (h1 : 0 ≤ (ps.getD (j + 1) (0, .empty)).1) (h2 : (ps.getD (j + 1) (0, .empty)).1 - 1 ≤ n) (h3 : (ps.getD j (0, .empty)).1 < (ps.getD (j + 1) (0, .empty)).1) : okAt ps n (j + 1) = true := by
  unfold okAt; rw [decide_eq_true h1, decide_eq_true h2, Nat.add_sub_cancel, decide_eq_true h3]; simp
theorem validV_end {ps : List (Int × ByteArray)} {n : Int} (h : ∀ i, i < ps.length → okAt ps n i = true) : validV ps n = true := by
  unfold validV
  rw [List.all_eq_true]
  exact fun i hi => h i (List.mem_range.1 hi)

set_option maxRecDepth 20000 in
set_option maxHeartbeats 8000000 in
theorem rvalid_any (ad : Option Addr) (m c : Nat) (ps : List (Int × ByteArray)) (n : Int) (w : World) (hp : Pc w ad m ps) (hbd : ∀ p ∈ ps, p.1 ≤ 9223372036854775807) :
    Calls Tryd.prog 30 #[.slice ad m c, .int .i64 n] w fun e w' => e = .returned (.bool (validV ps n)) ∧ Below w.heap.size w w' := by
  have hnm := hp.max
  have HL := Lib.hid hp.len
  obtain ⟨b, off, hp⟩ := hp
  have HP := Lib.hid hp
  have HBD := Lib.hid hbd
  clear hp hbd
  go_enter Tryd.func30, Tryd.ntmps30
  go_wp2_with fail
  go_loopw [5] (fun i wr => ∃ (k : Nat), i = .int .i64 (k : Int) ∧ k ≤ m ∧ (∀ i, i < k → okAt ps n i = true) ∧ Below w.heap.size w wr) (fun i _ => m - (intOf i).toNat)
  case atStart => exact ⟨0, rfl, Nat.zero_le _, fun i hi => absurd hi (Nat.not_lt_zero _), Below.refl _ _⟩
  case round =>
    obtain ⟨k, rfl, hkn, hal, hbl⟩ := hrel
    have HAL := Lib.hid hal
    have HBL := Lib.hid hbl
    have hzr := hbl.size
    clear hal hbl
    by_cases hlt : k < m
    · have g1 := HP.out.below HBL.out
      have hix1 := fun W => g1.ix 33 58 Tryd.underlying33 cellsRc hlt c W
      have h10 := g1.c0 k hlt
      have h11 := g1.c1 k hlt
      have hkl : k < ps.length := by rw [HL.out]; exact hlt
      have hx2 : (ps.getD k (0, .empty)).1 ≤ 9223372036854775807 := HBD.out _ (getD_mem ps k _ hkl)
      have HNX : Hid (okAt ps n k = true → ∀ i, i < k + 1 → okAt ps n i = true) := fun h i hi => by
        rcases Nat.lt_or_ge i k with h' | h'
        · exact HAL.out i h'
        · rw [show i = k by omega]; exact h
      have HNO : Hid (okAt ps n k = false → validV ps n = false) := fun h => validV_no hkl h
      have hb1 : b < wr.heap.size := g1.block (by omega)
      by_cases hx0 : (ps.getD k (0, .empty)).1 < 0
      · have HF := Lib.hid (HNO.out (okAt_lo hx0))
        clear HNX HNO g1 hkl
        generalize (ps.getD k (0, .empty)).1 = x at *
        generalize (ps.getD k (0, .empty)).2 = y at *
        go_wp2_with fail
        go_quiet (fail)
        go_wp2_with fail
        go_ret
        exact ⟨by rw [HF.out]; rfl, HBL.out.trans ((below_drewN _ _).mono hzr)⟩
      · have hx1 : 0 ≤ (ps.getD k (0, .empty)).1 := by omega
        by_cases hx3 : n < (ps.getD k (0, .empty)).1 - 1
        · have HF := Lib.hid (HNO.out (okAt_hi hx3))
          clear HNX HNO g1 hkl
          generalize (ps.getD k (0, .empty)).1 = x at *
          generalize (ps.getD k (0, .empty)).2 = y at *
          have dd0 : decide (x < 0) = false := decide_eq_false hx0
          have dd1 : decide (n < x - 1) = true := decide_eq_true hx3
          have HWR : Hid (IntKind.i64.wrap (x - 1) = x - 1) := IntWalk.i64_in _ (by omega)
          have hwr := HWR.out
          go_wp2_with fail
          go_quiet (fail)
          go_wp2_with fail
          clear hwr
          go_ret
          exact ⟨by rw [HF.out]; rfl, HBL.out.trans ((below_drewN _ _).mono hzr)⟩
        · have hx4 : (ps.getD k (0, .empty)).1 - 1 ≤ n := by omega
          cases k with
          | zero =>
            have HN := Lib.hid (HNX.out (okAt_first hx1 hx4))
            clear HNX HNO g1 hkl
            generalize (ps.getD 0 (0, .empty)).1 = x at *
            generalize (ps.getD 0 (0, .empty)).2 = y at *
            simp only [Int.natCast_zero, Nat.zero_mul, Nat.add_zero] at hix1 h10 h11
            have dd0 : decide (x < 0) = false := decide_eq_false hx0
            have dd1 : decide (n < x - 1) = false := decide_eq_false hx3
            have HWR : Hid (IntKind.i64.wrap (x - 1) = x - 1) := IntWalk.i64_in _ (by omega)
            have hwr := HWR.out
            go_wp2_with fail
            go_quiet (fail)
            go_wp2_with fail
            clear hwr
            go_roundw
            case rel => exact ⟨1, by go_num, by omega, HN.out, HBL.out.trans ((below_drewN _ _).mono hzr)⟩
            case measure => simp [intOf]; omega
          | succ j =>
            have hltj : j < m := by omega
            have hix2 := fun W => g1.ix 33 58 Tryd.underlying33 cellsRc hltj c W
            have h20 := g1.c0 j hltj
            have h21 := g1.c1 j hltj
            simp only [Int.natCast_add, Int.natCast_one] at hix1
            by_cases hx5 : (ps.getD (j + 1) (0, .empty)).1 ≤ (ps.getD j (0, .empty)).1
            · have HF := Lib.hid (HNO.out (okAt_ord hx5))
              clear HNX HNO g1 hkl
              generalize (ps.getD (j + 1) (0, .empty)).1 = x at *
              generalize (ps.getD (j + 1) (0, .empty)).2 = y at *
              generalize (ps.getD j (0, .empty)).1 = x' at *
              generalize (ps.getD j (0, .empty)).2 = y' at *
              have dd0 : decide (x < 0) = false := decide_eq_false hx0
              have dd1 : decide (n < x - 1) = false := decide_eq_false hx3
              have dd2 : decide ((0 : Int) < (j : Int) + 1) = true := decide_eq_true (by omega)
              have dd3 : decide (x ≤ x') = true := decide_eq_true hx5
              have HWR : Hid (IntKind.i64.wrap (x - 1) = x - 1) := IntWalk.i64_in _ (by omega)
              have HWJ : Hid (IntKind.i64.wrap ((j : Int) + 1 - 1) = (j : Int)) := by unfold Hid; rw [IntWalk.i64_in _ (by omega)]; omega
              have hwr := HWR.out
              have hwj := HWJ.out
              go_wp2_with fail
              go_quiet (fail)
              go_wp2_with fail
              clear hwr
              clear hwj
              go_ret
              exact ⟨by rw [HF.out]; rfl, HBL.out.trans ((below_drewN _ _).mono hzr)⟩
            · have hx6 : (ps.getD j (0, .empty)).1 < (ps.getD (j + 1) (0, .empty)).1 := by omega
              have HN := Lib.hid (HNX.out (okAt_next hx1 hx4 hx6))
              clear HNX HNO g1 hkl
              generalize (ps.getD (j + 1) (0, .empty)).1 = x at *
              generalize (ps.getD (j + 1) (0, .empty)).2 = y at *
              generalize (ps.getD j (0, .empty)).1 = x' at *
              generalize (ps.getD j (0, .empty)).2 = y' at *
              have dd0 : decide (x < 0) = false := decide_eq_false hx0
              have dd1 : decide (n < x - 1) = false := decide_eq_false hx3
              have dd2 : decide ((0 : Int) < (j : Int) + 1) = true := decide_eq_true (by omega)
              have dd3 : decide (x ≤ x') = false := decide_eq_false hx5
              have HWR : Hid (IntKind.i64.wrap (x - 1) = x - 1) := IntWalk.i64_in _ (by omega)
              have HWJ : Hid (IntKind.i64.wrap ((j : Int) + 1 - 1) = (j : Int)) := by unfold Hid; rw [IntWalk.i64_in _ (by omega)]; omega
              have hwr := HWR.out
              have hwj := HWJ.out
              go_wp2_with fail
              go_quiet (fail)
              go_wp2_with fail
              clear hwr
              clear hwj
              go_roundw
              case rel => exact ⟨j + 1 + 1, by go_num, by omega, HN.out, HBL.out.trans ((below_drewN _ _).mono hzr)⟩
              case measure => simp [intOf]; omega
    · obtain rfl : k = m := by omega
      have HS : Hid (validV ps n = true) := validV_end (fun i hi => HAL.out i (by rw [HL.out] at hi; exact hi))
      go_wp2_with fail
      go_ret
      exact ⟨by rw [HS.out]; rfl, HBL.out⟩

set_option maxRecDepth 20000 in
set_option maxHeartbeats 8000000 in
theorem pvalid_any (ad : Option Addr) (m c : Nat) (ps : List (Int × ByteArray)) (n : Int) (w : World) (hp : Pc w ad m ps) (hbd : ∀ p ∈ ps, p.1 ≤ 9223372036854775807) :
    Calls Tryd.prog 29 #[.slice ad m c, .int .i64 n] w fun e w' => e = .returned (.bool (validV ps n)) ∧ Below w.heap.size w w' := by
  have hnm := hp.max
  have HL := Lib.hid hp.len
  obtain ⟨b, off, hp⟩ := hp
  have HP := Lib.hid hp
  have HBD := Lib.hid hbd
  clear hp hbd
  go_enter Tryd.func29, Tryd.ntmps29
  go_wp2_with fail
  go_loopw [9] (fun i wr => ∃ (k : Nat), i = .int .i64 (k : Int) ∧ k ≤ m ∧ (∀ i, i < k → okAt ps n i = true) ∧ Below w.heap.size w wr) (fun i _ => m - (intOf i).toNat)
  case atStart => exact ⟨0, rfl, Nat.zero_le _, fun i hi => absurd hi (Nat.not_lt_zero _), Below.refl _ _⟩
  case round =>
    obtain ⟨k, rfl, hkn, hal, hbl⟩ := hrel
    have HAL := Lib.hid hal
    have HBL := Lib.hid hbl
    have hzr := hbl.size
    clear hal hbl
    by_cases hlt : k < m
    · have g1 := HP.out.below HBL.out
      have hix1 := fun W => g1.ix 27 66 Tryd.underlying27 cellsPc hlt c W
      have h10 := g1.c0 k hlt
      have h11 := g1.c1 k hlt
      have hkl : k < ps.length := by rw [HL.out]; exact hlt
      have hx2 : (ps.getD k (0, .empty)).1 ≤ 9223372036854775807 := HBD.out _ (getD_mem ps k _ hkl)
      have HNX : Hid (okAt ps n k = true → ∀ i, i < k + 1 → okAt ps n i = true) := fun h i hi => by
        rcases Nat.lt_or_ge i k with h' | h'
        · exact HAL.out i h'
        · rw [show i = k by omega]; exact h
      have HNO : Hid (okAt ps n k = false → validV ps n = false) := fun h => validV_no hkl h
      have hb1 : b < wr.heap.size := g1.block (by omega)
      by_cases hx0 : (ps.getD k (0, .empty)).1 < 0
      · have HF := Lib.hid (HNO.out (okAt_lo hx0))
        clear HNX HNO g1 hkl
        generalize (ps.getD k (0, .empty)).1 = x at *
        generalize (ps.getD k (0, .empty)).2 = y at *
        go_wp2_with fail
        go_quiet (fail)
        go_wp2_with fail
        go_ret
        exact ⟨by rw [HF.out]; rfl, HBL.out.trans (Below.trans ((Below.refl _ _).alloc (Nat.le_refl _) _) (below_drewN _ _ |>.mono (by simp)) |>.mono hzr)⟩
      · have hx1 : 0 ≤ (ps.getD k (0, .empty)).1 := by omega
        by_cases hx3 : n < (ps.getD k (0, .empty)).1 - 1
        · have HF := Lib.hid (HNO.out (okAt_hi hx3))
          clear HNX HNO g1 hkl
          generalize (ps.getD k (0, .empty)).1 = x at *
          generalize (ps.getD k (0, .empty)).2 = y at *
          have dd0 : decide (x < 0) = false := decide_eq_false hx0
          have dd1 : decide (n < x - 1) = true := decide_eq_true hx3
          have HWR : Hid (IntKind.i64.wrap (x - 1) = x - 1) := IntWalk.i64_in _ (by omega)
          have hwr := HWR.out
          go_wp2_with fail
          go_quiet (fail)
          go_wp2_with fail
          clear hwr
          go_ret
          exact ⟨by rw [HF.out]; rfl, HBL.out.trans (Below.trans ((Below.refl _ _).alloc (Nat.le_refl _) _) (below_drewN _ _ |>.mono (by simp)) |>.mono hzr)⟩
        · have hx4 : (ps.getD k (0, .empty)).1 - 1 ≤ n := by omega
          cases k with
          | zero =>
            have HN := Lib.hid (HNX.out (okAt_first hx1 hx4))
            clear HNX HNO g1 hkl
            generalize (ps.getD 0 (0, .empty)).1 = x at *
            generalize (ps.getD 0 (0, .empty)).2 = y at *
            simp only [Int.natCast_zero, Nat.zero_mul, Nat.add_zero] at hix1 h10 h11
            have dd0 : decide (x < 0) = false := decide_eq_false hx0
            have dd1 : decide (n < x - 1) = false := decide_eq_false hx3
            have HWR : Hid (IntKind.i64.wrap (x - 1) = x - 1) := IntWalk.i64_in _ (by omega)
            have hwr := HWR.out
            go_wp2_with fail
            go_quiet (fail)
            go_wp2_with fail
            clear hwr
            go_roundw
            case rel => exact ⟨1, by go_num, by omega, HN.out, HBL.out.trans (Below.trans ((Below.refl _ _).alloc (Nat.le_refl _) _) (below_drewN _ _ |>.mono (by simp)) |>.mono hzr)⟩
            case measure => simp [intOf]; omega
          | succ j =>
            have hltj : j < m := by omega
            have hix2 := fun W => g1.ix 27 66 Tryd.underlying27 cellsPc hltj c W
            have h20 := g1.c0 j hltj
            have h21 := g1.c1 j hltj
            simp only [Int.natCast_add, Int.natCast_one] at hix1
            by_cases hx5 : (ps.getD (j + 1) (0, .empty)).1 ≤ (ps.getD j (0, .empty)).1
            · have HF := Lib.hid (HNO.out (okAt_ord hx5))
              clear HNX HNO g1 hkl
              generalize (ps.getD (j + 1) (0, .empty)).1 = x at *
              generalize (ps.getD (j + 1) (0, .empty)).2 = y at *
              generalize (ps.getD j (0, .empty)).1 = x' at *
              generalize (ps.getD j (0, .empty)).2 = y' at *
              have dd0 : decide (x < 0) = false := decide_eq_false hx0
              have dd1 : decide (n < x - 1) = false := decide_eq_false hx3
              have dd2 : decide ((0 : Int) < (j : Int) + 1) = true := decide_eq_true (by omega)
              have dd3 : decide (x ≤ x') = true := decide_eq_true hx5
              have HWR : Hid (IntKind.i64.wrap (x - 1) = x - 1) := IntWalk.i64_in _ (by omega)
              have HWJ : Hid (IntKind.i64.wrap ((j : Int) + 1 - 1) = (j : Int)) := by unfold Hid; rw [IntWalk.i64_in _ (by omega)]; omega
              have hwr := HWR.out
              have hwj := HWJ.out
              go_wp2_with fail
              go_quiet (fail)
              go_wp2_with fail
              clear hwr
              clear hwj
              go_ret
              exact ⟨by rw [HF.out]; rfl, HBL.out.trans (Below.trans ((Below.refl _ _).alloc (Nat.le_refl _) _) (below_drewN _ _ |>.mono (by simp)) |>.mono hzr)⟩
            · have hx6 : (ps.getD j (0, .empty)).1 < (ps.getD (j + 1) (0, .empty)).1 := by omega
              have HN := Lib.hid (HNX.out (okAt_next hx1 hx4 hx6))
              clear HNX HNO g1 hkl
              generalize (ps.getD (j + 1) (0, .empty)).1 = x at *
              generalize (ps.getD (j + 1) (0, .empty)).2 = y at *
              generalize (ps.getD j (0, .empty)).1 = x' at *
              generalize (ps.getD j (0, .empty)).2 = y' at *
              have dd0 : decide (x < 0) = false := decide_eq_false hx0
              have dd1 : decide (n < x - 1) = false := decide_eq_false hx3
              have dd2 : decide ((0 : Int) < (j : Int) + 1) = true := decide_eq_true (by omega)
              have dd3 : decide (x ≤ x') = false := decide_eq_false hx5
              have HWR : Hid (IntKind.i64.wrap (x - 1) = x - 1) := IntWalk.i64_in _ (by omega)
              have HWJ : Hid (IntKind.i64.wrap ((j : Int) + 1 - 1) = (j : Int)) := by unfold Hid; rw [IntWalk.i64_in _ (by omega)]; omega
              have hwr := HWR.out
              have hwj := HWJ.out
              go_wp2_with fail
              go_quiet (fail)
              go_wp2_with fail
              clear hwr
              clear hwj
              go_roundw
              case rel => exact ⟨j + 1 + 1, by go_num, by omega, HN.out, HBL.out.trans (Below.trans ((Below.refl _ _).alloc (Nat.le_refl _) _) (below_drewN _ _ |>.mono (by simp)) |>.mono hzr)⟩
              case measure => simp [intOf]; omega
    · obtain rfl : k = m := by omega
      have HS : Hid (validV ps n = true) := validV_end (fun i hi => HAL.out i (by rw [HL.out] at hi; exact hi))
      go_wp2_with fail
      go_ret
      exact ⟨by rw [HS.out]; rfl, HBL.out⟩
end Go.Proofs.YtkkggpahanddnaaDoor
