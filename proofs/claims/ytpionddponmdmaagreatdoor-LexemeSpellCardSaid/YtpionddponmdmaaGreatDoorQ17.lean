/- Walks: two digits in base 16 are read. -/
import Derived.Test.YtpionddponmdmaaGreatDoorQ16
namespace Go.Proofs.YtpionddponmdmaaGreatDoor
open Go.RowKit
attribute [local go_sem ↓] Go.wp_at_zero Go.wp_at_succ
theorem hexD_ix {n : Nat} (h : n < 16) (w : World) : Calls Tryz.prog 27 #[.string ⟨#[48, 49, 50, 51, 52, 53, 54, 55, 56, 57, 97, 98, 99, 100, 101, 102]⟩, .int .u8 ((hexD n).toNat : Int)] w fun e w' => e = .returned (.int .i64 (n : Int)) ∧ w' = w := by
  have k : ∀ v : Fin 16, Lib.indexByte [48, 49, 50, 51, 52, 53, 54, 55, 56, 57, 97, 98, 99, 100, 101, 102] ((hexD v.1).toNat : Int).toNat.toUInt8 = (v.1 : Int) := by decide +kernel
  have h1 := Tryz.strings_IndexByte ⟨#[48, 49, 50, 51, 52, 53, 54, 55, 56, 57, 97, 98, 99, 100, 101, 102]⟩ ((hexD n).toNat : Int) w
  have e : Lib.indexByte (⟨#[48, 49, 50, 51, 52, 53, 54, 55, 56, 57, 97, 98, 99, 100, 101, 102]⟩ : ByteArray).data.toList ((hexD n).toNat : Int).toNat.toUInt8 = (n : Int) := k ⟨n, h⟩
  rw [e] at h1
  exact h1
theorem hexD_az {n : Nat} (h : n < 16) : ¬ (65 : Int) ≤ ((hexD n).toNat : Int) ∨ ((65 : Int) ≤ ((hexD n).toNat : Int) ∧ ¬ ((hexD n).toNat : Int) ≤ 70) := by
  have k : ∀ v : Fin 16, ¬ (65 : Int) ≤ ((hexD v.1).toNat : Int) ∨ ((65 : Int) ≤ ((hexD v.1).toNat : Int) ∧ ¬ ((hexD v.1).toNat : Int) ≤ 70) := by decide +kernel
  exact k ⟨n, h⟩
set_option maxRecDepth 20000 in
set_option maxHeartbeats 4000000 in
theorem digits_two (a b : Nat) (ha : a < 16) (hb : b < 16) (w : World) : Calls Tryz.prog 110 #[.string (bs [hexD a, hexD b]), .int .i64 16] w fun e w' => e = .returned (.tuple #[.int .i64 ((a : Int) * 16 + b), .bool true]) ∧ w = w' := by
  have hD : (bs [hexD a, hexD b]).size = 2 := by rw [bs_size]; rfl
  have x0 : ∀ h : 0 < (bs [hexD a, hexD b]).size, (bs [hexD a, hexD b])[0]'h = hexD a := fun _ => rfl
  have x1 : ∀ h : 1 < (bs [hexD a, hexD b]).size, (bs [hexD a, hexD b])[1]'h = hexD b := fun _ => rfl
  have HA := Lib.hid (hexD_ix ha)
  have HB := Lib.hid (hexD_ix hb)
  have za := hexD_az ha
  have zb := hexD_az hb
  have hem : (bs [hexD a, hexD b]).toList.isEmpty = false := by
    rw [ByteArray.toList_eq]; rfl
  generalize bs [hexD a, hexD b] = D at *
  generalize hexD a = da at *
  generalize hexD b = db at *
  rcases za with za | ⟨za, zc⟩ <;> rcases zb with zb | ⟨zb, zd⟩ <;> (
    go_enter Tryz.func110, Tryz.ntmps110
    go_wp2_with fail
    refine wp_loop_rounds 3 ?_
    rw [rounds_succ]
    go_wp2_with fail
    refine (HA.out _).mono ?_
    rintro e _ ⟨rfl, rfl⟩
    go_wp2_with fail
    rw [rounds_succ]
    go_wp2_with fail
    refine (HB.out _).mono ?_
    rintro e _ ⟨rfl, rfl⟩
    go_wp2_with fail
    rw [rounds_succ]
    go_wp2_with fail
    go_ret2
    exact ⟨rfl, rfl⟩)
end Go.Proofs.YtpionddponmdmaaGreatDoor
/- Walks: the program reads a sequence that it writes. -/
namespace Go.Proofs.YtpionddponmdmaaGreatDoor
open Go.RowKit
attribute [local go_sem ↓] Go.wp_at_zero Go.wp_at_succ
def RbPost (c : UInt8) (k : Nat) (w : World) (e : Ending) (w' : World) : Prop := e = .returned (.tuple #[.string (bs [c]), .int .i64 (k : Int)]) ∧ Below w.heap.size w w'
theorem cut_two (a b : UInt8) (r : List UInt8) : (bs (92 :: 120 :: a :: b :: r)).extract 2 4 = bs [a, b] := by
  rw [bs_extract]; rfl
set_option maxRecDepth 20000 in
set_option maxHeartbeats 4000000 in
theorem rb_letter (y c : UInt8) (h : (y = 110 ∧ c = 10) ∨ (y = 114 ∧ c = 13) ∨ (y = 116 ∧ c = 9)) (r : List UInt8) (hr : r.length ≤ 100000) (w : World) :
    Calls Tryz.prog 95 #[.string (bs (92 :: y :: r))] w (RbPost c 2 w) := by
  have hs : ¬ ((bs (92 :: y :: r)).size : Int) < 2 := by rw [bs_size]; simp; omega
  have hsz : (bs (92 :: y :: r)).size ≤ 1000000 := by rw [bs_size]; simp; omega
  have hb : 1 < (bs (92 :: y :: r)).size := by rw [bs_size]; simp
  have hx : ∀ g : 1 < (bs (92 :: y :: r)).size, (bs (92 :: y :: r))[1]'g = y := fun _ => rfl
  generalize bs (92 :: y :: r) = D at *
  rcases h with ⟨rfl, rfl⟩ | ⟨rfl, rfl⟩ | ⟨rfl, rfl⟩ <;> (
    go_enter Tryz.func95, Tryz.ntmps95
    go_wp2_with fail
    go_ret2
    exact ⟨rfl, Below.refl _ _⟩)
set_option maxRecDepth 20000 in
set_option maxHeartbeats 4000000 in
theorem rb_self (y : UInt8) (h : y = 92 ∨ y = 34) (r : List UInt8) (hr : r.length ≤ 100000) (w : World) :
    Calls Tryz.prog 95 #[.string (bs (92 :: y :: r))] w (RbPost y 2 w) := by
  have hs : ¬ ((bs (92 :: y :: r)).size : Int) < 2 := by rw [bs_size]; simp; omega
  have hsz : (bs (92 :: y :: r)).size ≤ 1000000 := by rw [bs_size]; simp; omega
  have hb : 1 < (bs (92 :: y :: r)).size := by rw [bs_size]; simp
  have hb2 : 2 ≤ (bs (92 :: y :: r)).size := by rw [bs_size]; simp
  have hx : ∀ g : 1 < (bs (92 :: y :: r)).size, (bs (92 :: y :: r))[1]'g = y := fun _ => rfl
  have hcut : (bs (92 :: y :: r)).extract 1 2 = bs [y] := by rw [bs_extract]; rfl
  generalize bs (92 :: y :: r) = D at *
  rcases h with rfl | rfl
  · have HI : Hid (∀ w, Calls Tryz.prog 27 #[.string ⟨#[92, 34, 61, 58, 35, 33, 123, 125, 32]⟩, .int .u8 92] w fun e w' => e = .returned (.int .i64 0) ∧ w' = w) := fun w => Tryz.strings_IndexByte ⟨#[92, 34, 61, 58, 35, 33, 123, 125, 32]⟩ 92 w
    go_enter Tryz.func95, Tryz.ntmps95
    go_wp2_with fail
    refine (HI.out _).mono ?_
    rintro e _ ⟨rfl, rfl⟩
    go_wp2_with fail
    go_ret2
    exact ⟨rfl, Below.refl _ _⟩
  · have HI : Hid (∀ w, Calls Tryz.prog 27 #[.string ⟨#[92, 34, 61, 58, 35, 33, 123, 125, 32]⟩, .int .u8 34] w fun e w' => e = .returned (.int .i64 1) ∧ w' = w) := fun w => Tryz.strings_IndexByte ⟨#[92, 34, 61, 58, 35, 33, 123, 125, 32]⟩ 34 w
    go_enter Tryz.func95, Tryz.ntmps95
    go_wp2_with fail
    refine (HI.out _).mono ?_
    rintro e _ ⟨rfl, rfl⟩
    go_wp2_with fail
    go_ret2
    exact ⟨rfl, Below.refl _ _⟩
set_option maxRecDepth 20000 in
set_option maxHeartbeats 4000000 in
theorem rb_hex (c : UInt8) (hc : c.toNat ≤ 127) (r : List UInt8) (hr : r.length ≤ 100000) (w : World) :
    Calls Tryz.prog 95 #[.string (bs (92 :: 120 :: hexD (c.toNat / 16) :: hexD (c.toNat % 16) :: r))] w (RbPost c 4 w) := by
  have hl : (bs (92 :: 120 :: hexD (c.toNat / 16) :: hexD (c.toNat % 16) :: r)).size = r.length + 4 := by rw [bs_size]; simp
  have hs : ¬ ((bs (92 :: 120 :: hexD (c.toNat / 16) :: hexD (c.toNat % 16) :: r)).size : Int) < 2 := by omega
  have hs4 : (4 : Int) ≤ ((bs (92 :: 120 :: hexD (c.toNat / 16) :: hexD (c.toNat % 16) :: r)).size : Int) := by omega
  have hsz : (bs (92 :: 120 :: hexD (c.toNat / 16) :: hexD (c.toNat % 16) :: r)).size ≤ 1000000 := by omega
  have hb : 1 < (bs (92 :: 120 :: hexD (c.toNat / 16) :: hexD (c.toNat % 16) :: r)).size := by omega
  have hb4 : 4 ≤ (bs (92 :: 120 :: hexD (c.toNat / 16) :: hexD (c.toNat % 16) :: r)).size := by omega
  have hx : ∀ g : 1 < (bs (92 :: 120 :: hexD (c.toNat / 16) :: hexD (c.toNat % 16) :: r)).size, (bs (92 :: 120 :: hexD (c.toNat / 16) :: hexD (c.toNat % 16) :: r))[1]'g = 120 := fun _ => rfl
  have hcut := cut_two (hexD (c.toNat / 16)) (hexD (c.toNat % 16)) r
  have HDG := Lib.hid (fun w => digits_two (c.toNat / 16) (c.toNat % 16) (by have := c.toNat_lt; omega) (by omega) w)
  have ez : (((c.toNat / 16 : Nat) : Int) * 16 + ((c.toNat % 16 : Nat) : Int)) = (c.toNat : Int) := by omega
  rw [ez] at HDG
  have kc := convH (c.toNat : Int) c rfl
  have hc2 : (c.toNat : Int) ≤ 127 := by omega
  have hc3 : (c.toNat : Int) < 256 := by omega
  have hc4 : (0 : Int) ≤ (c.toNat : Int) := by omega
  clear hl ez
  generalize bs (92 :: 120 :: hexD (c.toNat / 16) :: hexD (c.toNat % 16) :: r) = D at *
  generalize bs [hexD (c.toNat / 16), hexD (c.toNat % 16)] = E at *
  go_enter Tryz.func95, Tryz.ntmps95
  go_wp2_with fail
  refine (HDG.out _).mono ?_
  rintro e _ ⟨rfl, rfl⟩
  go_wp2_with fail
  go_ret2
  exact ⟨rfl, (Below.refl _ _).alloc (Nat.le_refl _) _⟩
end Go.Proofs.YtpionddponmdmaaGreatDoor
