/- Walks: a byte in base 16, by internal/strconv's formatBits. -/
import Derived.Test.YtkkggpahanddnaaDoorH27
namespace Go.Proofs.YtkkggpahanddnaaDoor
open Go.RowKit
attribute [local go_sem ↓] Go.wp_at_zero Go.wp_at_succ
def TabDeB (w : World) : Prop := ∀ w', Below w.heap.size w w' → TabDe w'
theorem dig_at {u : Nat} (hu : u < 16) (h : u < (⟨#[48, 49, 50, 51, 52, 53, 54, 55, 56, 57, 97, 98, 99, 100, 101, 102, 103, 104, 105, 106, 107, 108, 109, 110, 111, 112, 113, 114, 115, 116, 117, 118, 119, 120, 121, 122]⟩ : ByteArray).size) :
    (⟨#[48, 49, 50, 51, 52, 53, 54, 55, 56, 57, 97, 98, 99, 100, 101, 102, 103, 104, 105, 106, 107, 108, 109, 110, 111, 112, 113, 114, 115, 116, 117, 118, 119, 120, 121, 122]⟩ : ByteArray)[u] = hexD u := by
  have k : ∀ v : Fin 16, (⟨#[48, 49, 50, 51, 52, 53, 54, 55, 56, 57, 97, 98, 99, 100, 101, 102, 103, 104, 105, 106, 107, 108, 109, 110, 111, 112, 113, 114, 115, 116, 117, 118, 119, 120, 121, 122]⟩ : ByteArray)[v.1]'(Nat.lt_of_lt_of_le v.2 (by decide)) = hexD v.1 := by decide +kernel
  exact k ⟨u, hu⟩
theorem zero_size : (Tryd.zeroCells132).size = 65 := by kernel_rfl
theorem conv_one (c : UInt8) (w : World) (T : TypeId) :
    (convert 71 9 (.slice (some ⟨w.heap.size, 64, none⟩) 1 1)).run Tryd.prog (w.alloc (.cells (Tryd.zeroCells132.setIfInBounds 64 (.int .u8 (c.toNat : Int))) T)) = .ok (.string (bs [c])) (w.alloc (.cells (Tryd.zeroCells132.setIfInBounds 64 (.int .u8 (c.toNat : Int))) T)) := by
  refine run_convert_bytes_back _ 71 9 5 ⟨w.heap.size, 64, none⟩ 1 [c] Tryd.underlying71 Tryd.underlying5 Tryd.underlying9 ?_
  intro j hj
  obtain rfl : j = 0 := by simp at hj; exact hj
  refine (row_cells (row_new _ _ _) 64).trans ?_
  rw [Array.getElem?_setIfInBounds_self_of_lt (by rw [zero_size]; omega)]
  rfl
theorem conv_two (a b : UInt8) (w : World) (T : TypeId) :
    (convert 71 9 (.slice (some ⟨w.heap.size, 63, none⟩) 2 2)).run Tryd.prog (w.alloc (.cells ((Tryd.zeroCells132.setIfInBounds 64 (.int .u8 (b.toNat : Int))).setIfInBounds 63 (.int .u8 (a.toNat : Int))) T)) = .ok (.string (bs [a, b])) (w.alloc (.cells ((Tryd.zeroCells132.setIfInBounds 64 (.int .u8 (b.toNat : Int))).setIfInBounds 63 (.int .u8 (a.toNat : Int))) T)) := by
  refine run_convert_bytes_back _ 71 9 5 ⟨w.heap.size, 63, none⟩ 2 [a, b] Tryd.underlying71 Tryd.underlying5 Tryd.underlying9 ?_
  intro j hj
  have : j = 0 ∨ j = 1 := by simp at hj; omega
  rcases this with rfl | rfl
  · refine (row_cells (row_new _ _ _) 63).trans ?_
    rw [Array.getElem?_setIfInBounds_self_of_lt (by rw [Array.size_setIfInBounds, zero_size]; omega)]
    rfl
  · refine (row_cells (row_new _ _ _) 64).trans ?_
    rw [Array.getElem?_setIfInBounds_ne (by omega), Array.getElem?_setIfInBounds_self_of_lt (by rw [zero_size]; omega)]
    rfl
set_option maxRecDepth 20000 in
set_option maxHeartbeats 4000000 in
theorem fmt16_lo (u : Nat) (hu : u < 16) (w : World) (ht : TabDeB w) : Calls Tryd.prog 74 #[.slice none 0 0, .int .u64 (u : Int), .int .i64 16, .bool false, .bool false] w fun e w' => e = .returned (.tuple #[.slice none 0 0, .string (bs [hexD u])]) ∧ Below w.heap.size w w' := by
  have h1 : ¬ (16 : Int) ≤ (u : Int) := by omega
  have hd := dig_at hu
  have kc := conv_one (hexD u) w
  go_enter Tryd.func74, Tryd.ntmps74
  go_wp2_with fail
  refine (pow2_16 _).mono ?_
  rintro e w' ⟨rfl, rfl⟩
  go_wp2_with fail
  refine (trail _ (ht _ ((Below.refl _ _).alloc (Nat.le_refl _) _))).mono ?_
  rintro e w' ⟨rfl, rfl⟩
  go_wp2_with fail
  refine wp_loop_rounds 1 ?_
  rw [rounds_succ]
  go_wp2_with fail
  go_ret2
  exact ⟨rfl, (Below.refl _ _).alloc (Nat.le_refl _) _⟩
theorem and15 {u : Nat} (hu : u < 256) : bits BinOp.and IntKind.u64 (u : Int) 15 = ((u % 16 : Nat) : Int) := by
  have k : ∀ v : Fin 256, bits BinOp.and IntKind.u64 (v.1 : Int) 15 = ((v.1 % 16 : Nat) : Int) := by decide +kernel
  exact k ⟨u, hu⟩
set_option maxRecDepth 20000 in
set_option maxHeartbeats 4000000 in
theorem fmt16_hi (u : Nat) (h0 : 16 ≤ u) (hu : u < 256) (w : World) (ht : TabDeB w) : Calls Tryd.prog 74 #[.slice none 0 0, .int .u64 (u : Int), .int .i64 16, .bool false, .bool false] w fun e w' => e = .returned (.tuple #[.slice none 0 0, .string (bs [hexD (u / 16), hexD (u % 16)])]) ∧ Below w.heap.size w w' := by
  have h1 : (16 : Int) ≤ (u : Int) := by omega
  have h2 : ¬ (16 : Int) ≤ (u : Int) / 16 := by omega
  have hd := dig_at (u := u / 16) (by omega)
  have hd2 := dig_at (u := u % 16) (by omega)
  have ha := and15 hu
  have hto : ((u : Int) / 16).toNat = u / 16 := by omega
  have kc := conv_two (hexD (u / 16)) (hexD (u % 16)) w
  go_enter Tryd.func74, Tryd.ntmps74
  go_wp2_with fail
  refine (pow2_16 _).mono ?_
  rintro e w' ⟨rfl, rfl⟩
  go_wp2_with fail
  refine (trail _ (ht _ ((Below.refl _ _).alloc (Nat.le_refl _) _))).mono ?_
  rintro e w' ⟨rfl, rfl⟩
  go_wp2_with fail
  refine wp_loop_rounds 2 ?_
  rw [rounds_succ]
  go_wp2_with fail
  rw [rounds_succ]
  go_wp2_with fail
  go_ret2
  exact ⟨rfl, (Below.refl _ _).alloc (Nat.le_refl _) _⟩
end Go.Proofs.YtkkggpahanddnaaDoor
