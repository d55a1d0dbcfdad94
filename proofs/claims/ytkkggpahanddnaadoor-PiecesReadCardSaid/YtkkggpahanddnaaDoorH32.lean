/- Walks: two digits in base 16 are read. -/
import Derived.Test.YtkkggpahanddnaaDoorH31
namespace Go.Proofs.YtkkggpahanddnaaDoor
open Go.RowKit
attribute [local go_sem ↓] Go.wp_at_zero Go.wp_at_succ
theorem hexD_ix {n : Nat} (h : n < 16) (w : World) : Calls Tryd.prog 60 #[.string ⟨#[48, 49, 50, 51, 52, 53, 54, 55, 56, 57, 97, 98, 99, 100, 101, 102]⟩, .int .u8 ((hexD n).toNat : Int)] w fun e w' => e = .returned (.int .i64 (n : Int)) ∧ w' = w := by
  have k : ∀ v : Fin 16, Lib.indexByte [48, 49, 50, 51, 52, 53, 54, 55, 56, 57, 97, 98, 99, 100, 101, 102] ((hexD v.1).toNat : Int).toNat.toUInt8 = (v.1 : Int) := by decide +kernel
  have h1 := Tryd.strings_IndexByte ⟨#[48, 49, 50, 51, 52, 53, 54, 55, 56, 57, 97, 98, 99, 100, 101, 102]⟩ ((hexD n).toNat : Int) w
  have e : Lib.indexByte (⟨#[48, 49, 50, 51, 52, 53, 54, 55, 56, 57, 97, 98, 99, 100, 101, 102]⟩ : ByteArray).data.toList ((hexD n).toNat : Int).toNat.toUInt8 = (n : Int) := k ⟨n, h⟩
  rw [e] at h1
  exact h1
theorem hexD_az {n : Nat} (h : n < 16) : ¬ (65 : Int) ≤ ((hexD n).toNat : Int) ∨ ((65 : Int) ≤ ((hexD n).toNat : Int) ∧ ¬ ((hexD n).toNat : Int) ≤ 70) := by
  have k : ∀ v : Fin 16, ¬ (65 : Int) ≤ ((hexD v.1).toNat : Int) ∨ ((65 : Int) ≤ ((hexD v.1).toNat : Int) ∧ ¬ ((hexD v.1).toNat : Int) ≤ 70) := by decide +kernel
  exact k ⟨n, h⟩
set_option maxRecDepth 20000 in
set_option maxHeartbeats 4000000 in
theorem digits_two (a b : Nat) (ha : a < 16) (hb : b < 16) (w : World) : Calls Tryd.prog 85 #[.string (bs [hexD a, hexD b]), .int .i64 16] w fun e w' => e = .returned (.tuple #[.int .i64 ((a : Int) * 16 + b), .bool true]) ∧ w = w' := by
  have hD : (bs [hexD a, hexD b]).size = 2 := by rw [bs_size]; rfl
  have x0 : ∀ h : 0 < (bs [hexD a, hexD b]).size, (bs [hexD a, hexD b])[0]'h = hexD a := fun _ => rfl
  have x1 : ∀ h : 1 < (bs [hexD a, hexD b]).size, (bs [hexD a, hexD b])[1]'h = hexD b := fun _ => rfl
  have HA := Lib.hid (hexD_ix ha)
  have HB := Lib.hid (hexD_ix hb)
  have za := hexD_az ha
  have zb := hexD_az hb
  have hem : (bs [hexD a, hexD b]).toList.isEmpty = false := by
    rw [ByteArray.toList_eq]; rfl
  generalize bs [hexD a, hexD b] = D at *
  generalize hexD a = da at *
  generalize hexD b = db at *
  rcases za with za | ⟨za, zc⟩ <;> rcases zb with zb | ⟨zb, zd⟩ <;> (
    go_enter Tryd.func85, Tryd.ntmps85
    go_wp2_with fail
    refine wp_loop_rounds 3 ?_
    rw [rounds_succ]
    go_wp2_with fail
    refine (HA.out _).mono ?_
    rintro e _ ⟨rfl, rfl⟩
    go_wp2_with fail
    rw [rounds_succ]
    go_wp2_with fail
    refine (HB.out _).mono ?_
    rintro e _ ⟨rfl, rfl⟩
    go_wp2_with fail
    rw [rounds_succ]
    go_wp2_with fail
    go_ret2
    exact ⟨rfl, rfl⟩)
end Go.Proofs.YtkkggpahanddnaaDoor
