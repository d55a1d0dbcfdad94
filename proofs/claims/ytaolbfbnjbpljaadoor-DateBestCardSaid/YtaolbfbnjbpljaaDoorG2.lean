/- Walks: the reference's leaves: fields, letters, the number of patterns. -/
import Derived.Test.YtaolbfbnjbpljaaDoorV2
import Derived.Test.YtaolbfbnjbpljaaDoorG1
namespace Go.Proofs.YtaolbfbnjbpljaaDoor
open Go.RowKit
attribute [local go_sem] Ext.cell Ext.frozen
attribute [local go_sem ↓] Go.wp_at_zero Go.wp_at_succ

theorem rfield_no (s : ByteArray) (w : World) (h : isFld s.data.toList = false) : Calls Tryd.prog 29 #[.string s] w fun e w' => e = .returned (.bool false) ∧ w = w' := by
  have hn : ∀ l ∈ fieldL, ¬ s.toList = l := fun l hl e => by
    rw [ByteArray.toList_eq] at e
    unfold isFld at h
    rw [e, List.contains_iff_mem.2 hl] at h
    cases h
  have h1 := hn [121] (by decide)
  have h2 := hn [77] (by decide)
  have h3 := hn [77, 77] (by decide)
  have h4 := hn [77, 77, 77] (by decide)
  have h5 := hn [69] (by decide)
  have h6 := hn [100] (by decide)
  have h7 := hn [100, 100] (by decide)
  clear hn h
  have g1 : (s.toList == [121]) = false := by simpa using h1
  have g2 : (s.toList == [77]) = false := by simpa using h2
  have g3 : (s.toList == [77, 77]) = false := by simpa using h3
  have g4 : (s.toList == [77, 77, 77]) = false := by simpa using h4
  have g5 : (s.toList == [69]) = false := by simpa using h5
  have g6 : (s.toList == [100]) = false := by simpa using h6
  have g7 : (s.toList == [100, 100]) = false := by simpa using h7
  go_enter Tryd.func29, Tryd.ntmps29
  go_wp2_with fail
  go_ret
  exact ⟨rfl, rfl⟩
theorem rfield_yes (l : List UInt8) (w : World) (h : l ∈ fieldL) : Calls Tryd.prog 29 #[.string (bs l)] w fun e w' => e = .returned (.bool true) ∧ w = w' := by
  unfold fieldL at h
  simp only [List.mem_cons, List.not_mem_nil, or_false] at h
  rcases h with h | h | h | h | h | h | h <;> subst h
  all_goals
    unfold bs
    go_enter Tryd.func29, Tryd.ntmps29
    go_wp2_with fail
    go_ret
    exact ⟨rfl, rfl⟩
theorem rfield_any (s : ByteArray) (w : World) : Calls Tryd.prog 29 #[.string s] w fun e w' => e = .returned (.bool (isFld s.data.toList)) ∧ w = w' := by
  cases h : isFld s.data.toList with
  | false => exact rfield_no s w h
  | true => exact rfield_yes s.data.toList w (List.contains_iff_mem.1 h)

theorem order_no (c : UInt8) (w : World) (h : ordL c = -1) : Calls Tryd.prog 30 #[.int .u8 (c.toNat : Int)] w fun e w' => e = .returned (.int .i64 (-1)) ∧ w = w' := by
  have hn : ∀ i, i < 4 → ¬ c = kindsL.getD i 0 := fun i hi e => by
    rw [e, ordL_kind hi] at h; omega
  have hf : ∀ (a : UInt8), ¬ c = a → ((a.toNat : Int) == (c.toNat : Int)) = false := fun a ha => by
    simp only [beq_eq_false_iff_ne, ne_eq, Int.natCast_inj]
    exact fun e => ha (UInt8.toNat.inj e.symm)
  have g0 : ((121 : Int) == (c.toNat : Int)) = false := hf 121 (hn 0 (by omega))
  have g1 : ((77 : Int) == (c.toNat : Int)) = false := hf 77 (hn 1 (by omega))
  have g2 : ((69 : Int) == (c.toNat : Int)) = false := hf 69 (hn 2 (by omega))
  have g3 : ((100 : Int) == (c.toNat : Int)) = false := hf 100 (hn 3 (by omega))
  clear hn hf h
  generalize (c.toNat : Int) = z at *
  have k0 : (((⟨#[121, 77, 69, 100]⟩ : ByteArray)[0].toNat : Int) == z) = false := g0
  have k1 : (((⟨#[121, 77, 69, 100]⟩ : ByteArray)[1].toNat : Int) == z) = false := g1
  have k2 : (((⟨#[121, 77, 69, 100]⟩ : ByteArray)[2].toNat : Int) == z) = false := g2
  have k3 : (((⟨#[121, 77, 69, 100]⟩ : ByteArray)[3].toNat : Int) == z) = false := g3
  clear g0 g1 g2 g3
  go_enter Tryd.func30, Tryd.ntmps30
  go_wp2_with fail
  refine wp_loop_rounds 5 ?_
  rw [rounds_succ]
  go_wp2_with fail
  rw [rounds_succ]
  go_wp2_with fail
  rw [rounds_succ]
  go_wp2_with fail
  rw [rounds_succ]
  go_wp2_with fail
  rw [rounds_succ]
  go_wp2_with fail
  go_ret
  exact ⟨rfl, rfl⟩
theorem order_0 (w : World) : Calls Tryd.prog 30 #[.int .u8 121] w fun e w' => e = .returned (.int .i64 0) ∧ w = w' := by
  go_enter Tryd.func30, Tryd.ntmps30
  go_wp2_with fail
  refine wp_loop_rounds 1 ?_
  rw [rounds_succ]
  go_wp2_with fail
  go_ret
  exact ⟨rfl, rfl⟩
theorem order_1 (w : World) : Calls Tryd.prog 30 #[.int .u8 77] w fun e w' => e = .returned (.int .i64 1) ∧ w = w' := by
  go_enter Tryd.func30, Tryd.ntmps30
  go_wp2_with fail
  refine wp_loop_rounds 2 ?_
  rw [rounds_succ]
  go_wp2_with fail
  rw [rounds_succ]
  go_wp2_with fail
  go_ret
  exact ⟨rfl, rfl⟩
theorem order_2 (w : World) : Calls Tryd.prog 30 #[.int .u8 69] w fun e w' => e = .returned (.int .i64 2) ∧ w = w' := by
  go_enter Tryd.func30, Tryd.ntmps30
  go_wp2_with fail
  refine wp_loop_rounds 3 ?_
  rw [rounds_succ]
  go_wp2_with fail
  rw [rounds_succ]
  go_wp2_with fail
  rw [rounds_succ]
  go_wp2_with fail
  go_ret
  exact ⟨rfl, rfl⟩
theorem order_3 (w : World) : Calls Tryd.prog 30 #[.int .u8 100] w fun e w' => e = .returned (.int .i64 3) ∧ w = w' := by
  go_enter Tryd.func30, Tryd.ntmps30
  go_wp2_with fail
  refine wp_loop_rounds 4 ?_
  rw [rounds_succ]
  go_wp2_with fail
  rw [rounds_succ]
  go_wp2_with fail
  rw [rounds_succ]
  go_wp2_with fail
  rw [rounds_succ]
  go_wp2_with fail
  go_ret
  exact ⟨rfl, rfl⟩
theorem order_any (c : UInt8) (w : World) : Calls Tryd.prog 30 #[.int .u8 (c.toNat : Int)] w fun e w' => e = .returned (.int .i64 (ordL c)) ∧ w = w' := by
  have h := ordL_bd c
  by_cases h0 : ordL c = -1
  · rw [h0]; exact order_no c w h0
  · by_cases h1 : ordL c = (0 : Nat)
    · rw [h1, ordL_at (by omega) h1]; exact order_0 w
    · by_cases h2 : ordL c = (1 : Nat)
      · rw [h2, ordL_at (by omega) h2]; exact order_1 w
      · by_cases h3 : ordL c = (2 : Nat)
        · rw [h3, ordL_at (by omega) h3]; exact order_2 w
        · have h4 : ordL c = (3 : Nat) := by omega
          rw [h4, ordL_at (by omega) h4]; exact order_3 w
end Go.Proofs.YtaolbfbnjbpljaaDoor
