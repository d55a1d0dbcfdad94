/- Walk: the program reads a piece's text back. -/
import Derived.Test.YtkkggpahanddnaaDoorH37
namespace Go.Proofs.YtkkggpahanddnaaDoor
open Go.RowKit
attribute [local go_sem] Ext.cell Ext.frozen
attribute [local go_sem ↓] Go.wp_at_zero Go.wp_at_succ
theorem cut_calls (ds r : List UInt8) (h : ∀ c ∈ ds, c ≠ 32) (hs : (ds ++ 32 :: 34 :: r).length ≤ 1000000) (w : World) (hM : MaxLen w) :
    Calls Tryd.prog 52 #[.string (bs (ds ++ 32 :: 34 :: r)), .string ⟨#[32, 34]⟩] w fun e w' => e = .returned (.tuple #[.string (bs ds), .string (bs r), .bool true]) ∧ Below w.heap.size w w' := by
  obtain ⟨m, hm⟩ := hM
  refine (Tryd.strings_Cut (bs (ds ++ 32 :: 34 :: r)) ⟨#[32, 34]⟩ m w (by rw [bs_size]; omega) hm).mono ?_
  rintro e _ ⟨rfl, k, rfl⟩
  refine ⟨?_, below_drewN _ _⟩
  rw [bs_data, show (⟨#[32, 34]⟩ : ByteArray).data.toList = [32, 34] from rfl, cut_at ds r h]
  rfl
theorem atoi_calls (n : Nat) (hn : n ≤ 1001) (w : World) :
    Calls Tryd.prog 53 #[.string (bs (Lib.itoa (n : Int)))] w fun e w' => e = .returned (.tuple #[.int .i64 (n : Int), .nilIface]) ∧ Below w.heap.size w w' := by
  obtain ⟨hat, -, hlen⟩ := itoa_le n hn
  refine (Tryd.strconv_Atoi (bs (Lib.itoa (n : Int))) n (by rw [bs_size]; omega) (by rw [bs_data]; exact hat) w).mono ?_
  rintro e w' ⟨e0, t, hw⟩
  exact ⟨e0, by rw [hw]; exact bytes_below _ _ _⟩
theorem end_calls (x R : List UInt8) (hs : (escS x ++ 34 :: R).length ≤ 1000000) (w : World) :
    Calls Tryd.prog 54 #[.int .i64 2, .string (bs (escS x ++ 34 :: R)), .int .u8 34] w fun e w' => e = .returned (.int .i64 ((escS x).length : Int)) ∧ w = w' := by
  have := end_any (bs (escS x ++ 34 :: R)) w (by rw [bs_size]; exact hs)
  rw [bs_data, endV_some (endL_escS x R)] at this
  exact this
theorem below_set2 {base : Nat} {w W : World} {B : Nat} (h : Below base w W) (hB : base ≤ B) (x y : Value) : Below base w ((W.setCell ⟨B, 0, none⟩ x).setCell ⟨B, 1, none⟩ y) :=
  (h.setCell (p := ⟨B, 0, none⟩) hB x).setCell (p := ⟨B, 1, none⟩) hB y
theorem pc_set {w : World} {B : Nat} {a b : Value} {T : TypeId} (hk : w.heap[B]? = some (.cells #[a, b] T (0, 0))) (x y : Value) :
    ((w.setCell ⟨B, 0, none⟩ x).setCell ⟨B, 1, none⟩ y).cell? ⟨B, 0, none⟩ = some x ∧ ((w.setCell ⟨B, 0, none⟩ x).setCell ⟨B, 1, none⟩ y).cell? ⟨B, 1, none⟩ = some y := by
  have kr := row_set (row_set hk 0 x) 1 y
  exact ⟨(row_cells kr 0).trans rfl, (row_cells kr 1).trans rfl⟩
set_option maxRecDepth 20000 in
set_option maxHeartbeats 4000000 in
theorem piece_any (n : Nat) (x R : List UInt8) (w : World) (hn : n ≤ 1001) (hx : x.length ≤ 2000) (hR : R.length ≤ 300000) (hM : MaxLen w) :
    Calls Tryd.prog 43 #[.string (bs (txtP ((n : Int), bs x) ++ R))] w fun e w' => e = .returned (.tuple #[.agg #[.int .i64 (n : Int), .string (bs x)], .string (bs R), .bool true]) ∧ Below w.heap.size w w' := by
  obtain ⟨hat, hno, hlen⟩ := itoa_le n hn
  have hno' : ∀ c ∈ Lib.itoa (n : Int), c ≠ 32 := fun c hc => by have := List.all_eq_true.1 hno c hc; simpa using this
  have hL := escS_len x
  have e1 : txtP ((n : Int), bs x) ++ R = Lib.itoa (n : Int) ++ 32 :: 34 :: (escS x ++ 34 :: R) := by simp [txtP, bs_data]
  have hl1 : (escS x ++ 34 :: R).length ≤ 400000 := by simp only [List.length_append, List.length_cons]; omega
  have HCUT := Lib.hid (fun w h => cut_calls (Lib.itoa (n : Int)) (escS x ++ 34 :: R) hno' (by simp only [List.length_append, List.length_cons] at hl1 ⊢; omega) w h)
  have HAT := Lib.hid (fun w => atoi_calls n hn w)
  have HEND := Lib.hid (fun w => end_calls x R (by omega) w)
  have HUN := Lib.hid (fun w => unesc_any x w hx)
  have hc1 : (bs (escS x ++ 34 :: R)).extract 0 (escS x).length = bs (escS x) := by
    rw [bs_extract, List.take_left]; rfl
  have hc2 : (bs (escS x ++ 34 :: R)).extract ((escS x).length + 1) (bs (escS x ++ 34 :: R)).size = bs R := by
    have := cut_split (escS x ++ [34]) R
    simpa using this
  have hN1 : (escS x).length + 1 ≤ (bs (escS x ++ 34 :: R)).size := by rw [bs_size]; simp only [List.length_append, List.length_cons]; omega
  have hN2 : (bs (escS x ++ 34 :: R)).size ≤ 400000 := by rw [bs_size]; omega
  have HM := Lib.hid (fun w' (h : Below w.heap.size w w') => hM.below h)
  rw [e1]
  clear e1 hat hno hno' hlen hL hl1 hM hR hx
  generalize bs (Lib.itoa (n : Int) ++ 32 :: 34 :: (escS x ++ 34 :: R)) = S at *
  generalize bs (Lib.itoa (n : Int)) = D at *
  generalize bs (escS x ++ 34 :: R) = E at *
  generalize bs (escS x) = U at *
  generalize (escS x).length = N at *
  generalize bs x = X at *
  generalize bs R = Y at *
  go_enter Tryd.func43, Tryd.ntmps43
  go_wp2_with fail
  refine (HCUT.out _ (HM.out _ ((Below.refl _ _).alloc (Nat.le_refl _) _))).mono ?_
  rintro e w1 ⟨rfl, hb1⟩
  have HB1 : Hid (Below w.heap.size w w1) := ((Below.refl _ _).alloc (Nat.le_refl _) _).trans (hb1.mono (by simp))
  have HK1 : Hid (w1.heap[w.heap.size]? = some (.cells #[.int .i64 0, .string ⟨#[]⟩] 66 (0, 0))) := (hb1.block w.heap.size (by simp)).trans (row_new _ _ _)
  have z1 : w.heap.size + 1 ≤ w1.heap.size := by have := hb1.size; simpa using this
  clear hb1
  go_wp2_with fail
  refine (HAT.out _).mono ?_
  rintro e w2 ⟨rfl, hb2⟩
  have HB2 : Hid (Below w.heap.size w w2) := HB1.out.trans (hb2.mono (by omega))
  have HK2 : Hid (w2.heap[w.heap.size]? = some (.cells #[.int .i64 0, .string ⟨#[]⟩] 66 (0, 0))) := (hb2.block w.heap.size (by omega)).trans HK1.out
  have z2 : w.heap.size + 1 ≤ w2.heap.size := Nat.le_trans z1 hb2.size
  clear hb2 HB1 HK1 z1
  go_wp2_with fail
  refine (HEND.out _).mono ?_
  rintro e _ ⟨rfl, rfl⟩
  go_wp2_with fail
  refine (HUN.out _).mono ?_
  rintro e w3 ⟨rfl, hb3⟩
  have k3 : w3.heap[w.heap.size]? = some (.cells #[.int .i64 0, .string ⟨#[]⟩] 66 (0, 0)) := (hb3.block w.heap.size (by omega)).trans HK2.out
  have HB3 : Hid (Below w.heap.size w w3) := HB2.out.trans (hb3.mono (by omega))
  have g0 := row_cells k3 0
  have g1 := row_cells k3 1
  have f0 := row_frozen k3 0
  have f1 := row_frozen k3 1
  have HK3 := Lib.hid k3
  clear hb3 k3 HB2 HK2 z2
  go_wp2_with fail
  have d1 : IntKind.i64.wrap ((N : Int) + 1) = (N : Int) + 1 := by rw [IntKind.wrap_i64]; omega
  have d2 : ((N : Int) + 1).toNat = N + 1 := by omega
  have d3 : 0 ≤ (N : Int) + 1 := by omega
  have d4 : (N : Int) + 1 ≤ (E.size : Int) := by omega
  go_region_with (fail)
  all_goals
    go_wp2_with fail
    obtain ⟨y0, y1⟩ := pc_set HK3.out (.int .i64 (n : Int)) (.string X)
    exact bodyPost_ret (v := .tuple #[.agg #[.int .i64 (n : Int), .string X], .string Y, .bool true]) (by simp [results, Tryd.f43, go_sem, y0, y1]) rfl ⟨rfl, (below_set2 HB3.out (Nat.le_refl _) _ _).drew⟩
end Go.Proofs.YtkkggpahanddnaaDoor
