/- Walks: whether patterns are few and short. -/
import Derived.Test.YtaolbfbnjbpljaaDoorG7
namespace Go.Proofs.YtaolbfbnjbpljaaDoor
open Go.RowKit
attribute [local go_sem] Ext.cell Ext.frozen
attribute [local go_sem ↓] Go.wp_at_zero Go.wp_at_succ

def shortP (p : List UInt8 × List UInt8) : Bool := decide (p.1.length ≤ 60) && decide (p.2.length ≤ 200)
theorem fewB_eq (ps : List (List UInt8 × List UInt8)) : fewB ps = (ps.all shortP && decide (ps.length ≤ 40)) := rfl
set_option maxRecDepth 20000 in
set_option maxHeartbeats 4000000 in
theorem few_any (ad : Option Addr) (n c : Nat) (ps : List (List UInt8 × List UInt8)) (b off : Nat) (w : World) (hp : PatAt w ad n ps b off) :
    Calls Tryd.prog 19 #[.slice ad n c] w fun e w' => e = .returned (.bool (fewB ps)) ∧ w = w' := by
  have HP := Lib.hid hp
  have hnm := hp.max
  have HLN := Lib.hid hp.len
  clear hp
  go_enter Tryd.func19, Tryd.ntmps19
  go_wp2_with fail
  go_loop [6] (fun v => ∃ k : Nat, v = .int .i64 (k : Int) ∧ k ≤ n ∧ (ps.take k).all shortP = true) (fun v => n - (intOf v).toNat)
  case atStart => exact ⟨0, rfl, Nat.zero_le _, by simp⟩
  case round =>
    obtain ⟨k, rfl, hkn, hall⟩ := hrel
    have HALL := Lib.hid hall
    clear hall
    by_cases hlt : k < n
    · have hix := fun W => HP.out.ix (c := c) hlt W
      have h0 := HP.out.c0 k hlt
      have h1 := HP.out.c1 k hlt
      have HST := Lib.hid (all_take_succ shortP ps k (by rw [HLN.out]; exact hlt) ([], []))
      have HNO := Lib.hid (all_of_getD shortP ps k (by rw [HLN.out]; exact hlt) ([], []))
      generalize ps.getD k ([], []) = p at *
      obtain ⟨p1, p2⟩ := p
      simp only at h0 h1
      have r1 : (bs p1).size = p1.length := bs_size _
      have r2 : (bs p2).size = p2.length := bs_size _
      have HSH : Hid (shortP (p1, p2) = (decide ((bs p1).size ≤ 60) && decide ((bs p2).size ≤ 200))) := by unfold Hid shortP; rw [r1, r2]
      clear r1 r2
      generalize bs p1 = X at *
      generalize bs p2 = Y at *
      by_cases hx : X.size ≤ 60
      · have hx' : ¬ 60 < (X.size : Int) := by omega
        by_cases hy : Y.size ≤ 200
        · have hy' : ¬ 200 < (Y.size : Int) := by omega
          have HS : Hid ((ps.take (k + 1)).all shortP = true) := by unfold Hid; rw [HST.out, HALL.out, HSH.out, decide_eq_true hx, decide_eq_true hy]; rfl
          go_wp2_with fail
          go_round
          case rel => exact ⟨k + 1, by go_num, by omega, HS.out⟩
          case measure => simp [intOf]; omega
        · have hy' : 200 < (Y.size : Int) := by omega
          have HF : Hid (fewB ps = false) := by unfold Hid; rw [fewB_eq, HNO.out (by rw [HSH.out, decide_eq_false hy, Bool.and_false])]; rfl
          go_wp2_with fail
          go_ret
          exact ⟨by rw [HF.out]; rfl, rfl⟩
      · have hx' : 60 < (X.size : Int) := by omega
        have HF : Hid (fewB ps = false) := by unfold Hid; rw [fewB_eq, HNO.out (by rw [HSH.out, decide_eq_false hx, Bool.false_and])]; rfl
        go_wp2_with fail
        go_ret
        exact ⟨by rw [HF.out]; rfl, rfl⟩
    · obtain rfl : k = n := by omega
      have HF : Hid (fewB ps = decide ((k : Int) ≤ 40)) := by
        unfold Hid
        have h1 := HALL.out
        rw [List.take_of_length_le (by rw [HLN.out]; exact Nat.le_refl _)] at h1
        rw [fewB_eq, h1, HLN.out, Bool.true_and]
        exact decide_eq_decide.2 (by omega)
      go_wp2_with fail
      go_ret
      exact ⟨by rw [HF.out]; rfl, rfl⟩
end Go.Proofs.YtaolbfbnjbpljaaDoor
