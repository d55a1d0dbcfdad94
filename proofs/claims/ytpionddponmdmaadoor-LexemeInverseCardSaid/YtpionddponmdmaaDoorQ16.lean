/- Walks: the program reads a sequence that it writes. -/
import Derived.Test.YtpionddponmdmaaDoorQ15
namespace Go.Proofs.YtpionddponmdmaaDoor
open Go.RowKit
attribute [local go_sem ↓] Go.wp_at_zero Go.wp_at_succ
def RbPost (c : UInt8) (k : Nat) (w : World) (e : Ending) (w' : World) : Prop := e = .returned (.tuple #[.string (bs [c]), .int .i64 (k : Int)]) ∧ Below w.heap.size w w'
theorem cut_two (a b : UInt8) (r : List UInt8) : (bs (92 :: 120 :: a :: b :: r)).extract 2 4 = bs [a, b] := by
  rw [bs_extract]; rfl
set_option maxRecDepth 20000 in
set_option maxHeartbeats 4000000 in
theorem rb_letter (y c : UInt8) (h : (y = 110 ∧ c = 10) ∨ (y = 114 ∧ c = 13) ∨ (y = 116 ∧ c = 9)) (r : List UInt8) (hr : r.length ≤ 100000) (w : World) :
    Calls Tryd.prog 76 #[.string (bs (92 :: y :: r))] w (RbPost c 2 w) := by
  have hs : ¬ ((bs (92 :: y :: r)).size : Int) < 2 := by rw [bs_size]; simp; omega
  have hsz : (bs (92 :: y :: r)).size ≤ 1000000 := by rw [bs_size]; simp; omega
  have hb : 1 < (bs (92 :: y :: r)).size := by rw [bs_size]; simp
  have hx : ∀ g : 1 < (bs (92 :: y :: r)).size, (bs (92 :: y :: r))[1]'g = y := fun _ => rfl
  generalize bs (92 :: y :: r) = D at *
  rcases h with ⟨rfl, rfl⟩ | ⟨rfl, rfl⟩ | ⟨rfl, rfl⟩ <;> (
    go_enter Tryd.func76, Tryd.ntmps76
    go_wp2_with fail
    go_ret2
    exact ⟨rfl, Below.refl _ _⟩)
set_option maxRecDepth 20000 in
set_option maxHeartbeats 4000000 in
theorem rb_self (y : UInt8) (h : y = 92 ∨ y = 34) (r : List UInt8) (hr : r.length ≤ 100000) (w : World) :
    Calls Tryd.prog 76 #[.string (bs (92 :: y :: r))] w (RbPost y 2 w) := by
  have hs : ¬ ((bs (92 :: y :: r)).size : Int) < 2 := by rw [bs_size]; simp; omega
  have hsz : (bs (92 :: y :: r)).size ≤ 1000000 := by rw [bs_size]; simp; omega
  have hb : 1 < (bs (92 :: y :: r)).size := by rw [bs_size]; simp
  have hb2 : 2 ≤ (bs (92 :: y :: r)).size := by rw [bs_size]; simp
  have hx : ∀ g : 1 < (bs (92 :: y :: r)).size, (bs (92 :: y :: r))[1]'g = y := fun _ => rfl
  have hcut : (bs (92 :: y :: r)).extract 1 2 = bs [y] := by rw [bs_extract]; rfl
  generalize bs (92 :: y :: r) = D at *
  rcases h with rfl | rfl
  · have HI : Hid (∀ w, Calls Tryd.prog 33 #[.string ⟨#[92, 34, 61, 58, 35, 33, 123, 125, 32]⟩, .int .u8 92] w fun e w' => e = .returned (.int .i64 0) ∧ w' = w) := fun w => Tryd.strings_IndexByte ⟨#[92, 34, 61, 58, 35, 33, 123, 125, 32]⟩ 92 w
    go_enter Tryd.func76, Tryd.ntmps76
    go_wp2_with fail
    refine (HI.out _).mono ?_
    rintro e _ ⟨rfl, rfl⟩
    go_wp2_with fail
    go_ret2
    exact ⟨rfl, Below.refl _ _⟩
  · have HI : Hid (∀ w, Calls Tryd.prog 33 #[.string ⟨#[92, 34, 61, 58, 35, 33, 123, 125, 32]⟩, .int .u8 34] w fun e w' => e = .returned (.int .i64 1) ∧ w' = w) := fun w => Tryd.strings_IndexByte ⟨#[92, 34, 61, 58, 35, 33, 123, 125, 32]⟩ 34 w
    go_enter Tryd.func76, Tryd.ntmps76
    go_wp2_with fail
    refine (HI.out _).mono ?_
    rintro e _ ⟨rfl, rfl⟩
    go_wp2_with fail
    go_ret2
    exact ⟨rfl, Below.refl _ _⟩
set_option maxRecDepth 20000 in
set_option maxHeartbeats 4000000 in
theorem rb_hex (c : UInt8) (hc : c.toNat ≤ 127) (r : List UInt8) (hr : r.length ≤ 100000) (w : World) :
    Calls Tryd.prog 76 #[.string (bs (92 :: 120 :: hexD (c.toNat / 16) :: hexD (c.toNat % 16) :: r))] w (RbPost c 4 w) := by
  have hl : (bs (92 :: 120 :: hexD (c.toNat / 16) :: hexD (c.toNat % 16) :: r)).size = r.length + 4 := by rw [bs_size]; simp
  have hs : ¬ ((bs (92 :: 120 :: hexD (c.toNat / 16) :: hexD (c.toNat % 16) :: r)).size : Int) < 2 := by omega
  have hs4 : (4 : Int) ≤ ((bs (92 :: 120 :: hexD (c.toNat / 16) :: hexD (c.toNat % 16) :: r)).size : Int) := by omega
  have hsz : (bs (92 :: 120 :: hexD (c.toNat / 16) :: hexD (c.toNat % 16) :: r)).size ≤ 1000000 := by omega
  have hb : 1 < (bs (92 :: 120 :: hexD (c.toNat / 16) :: hexD (c.toNat % 16) :: r)).size := by omega
  have hb4 : 4 ≤ (bs (92 :: 120 :: hexD (c.toNat / 16) :: hexD (c.toNat % 16) :: r)).size := by omega
  have hx : ∀ g : 1 < (bs (92 :: 120 :: hexD (c.toNat / 16) :: hexD (c.toNat % 16) :: r)).size, (bs (92 :: 120 :: hexD (c.toNat / 16) :: hexD (c.toNat % 16) :: r))[1]'g = 120 := fun _ => rfl
  have hcut := cut_two (hexD (c.toNat / 16)) (hexD (c.toNat % 16)) r
  have HDG := Lib.hid (fun w => digits_two (c.toNat / 16) (c.toNat % 16) (by have := c.toNat_lt; omega) (by omega) w)
  have ez : (((c.toNat / 16 : Nat) : Int) * 16 + ((c.toNat % 16 : Nat) : Int)) = (c.toNat : Int) := by omega
  rw [ez] at HDG
  have kc := convH (c.toNat : Int) c rfl
  have hc2 : (c.toNat : Int) ≤ 127 := by omega
  have hc3 : (c.toNat : Int) < 256 := by omega
  have hc4 : (0 : Int) ≤ (c.toNat : Int) := by omega
  clear hl ez
  generalize bs (92 :: 120 :: hexD (c.toNat / 16) :: hexD (c.toNat % 16) :: r) = D at *
  generalize bs [hexD (c.toNat / 16), hexD (c.toNat % 16)] = E at *
  go_enter Tryd.func76, Tryd.ntmps76
  go_wp2_with fail
  refine (HDG.out _).mono ?_
  rintro e _ ⟨rfl, rfl⟩
  go_wp2_with fail
  go_ret2
  exact ⟨rfl, (Below.refl _ _).alloc (Nat.le_refl _) _⟩
end Go.Proofs.YtpionddponmdmaaDoor
/- Walks: a byte into a builder; which bytes may not stand in quotation marks. -/
namespace Go.Proofs.YtpionddponmdmaaDoor
open Go.RowKit
attribute [local go_sem] Ext.cell Ext.frozen
attribute [local go_sem ↓] Go.wp_at_zero Go.wp_at_succ
set_option maxHeartbeats 2000000 in
set_option maxRecDepth 100000 in
theorem wbyte_any (B b : Nat) (bs : List Value) (c : Int) (w : World) (h : Lib.IsBuilder 68 5 B b bs w) (hlen : bs.length + 1 ≤ 140737488355328) (hBw : B ≤ w.heap.size) :
    Calls Tryd.prog 79 #[.pointer (some ⟨b, 0, none⟩), .int .u8 c] w fun e w' => e = .returned .nilIface ∧ (Lib.BuilderAt 68 5 B b (.pointer (some ⟨b, 0, none⟩)) (bs ++ [.int .u8 c]) w' ∧ Below B w w') := by
  obtain ⟨i0, hi, hz0, hz1, hz2⟩ := info_parts Tryd.Builder_Extra_169.infoByte
  have HC := Lib.hid (check_any B b bs w h)
  clear h
  go_enter Tryd.func79, Tryd.ntmps79
  go_wp2_with fail
  refine HC.out.mono ?_
  rintro e w1 ⟨rfl, h1, hb1, _⟩
  obtain ⟨hB, v, hbk, hown, hne⟩ := h1
  have c0 : w1.cell? ⟨b, 0, none⟩ = some (.pointer (some ⟨b, 0, none⟩)) := by rw [Lib.cell_of_heap hbk]; rfl
  have c1 : w1.cell? ⟨b, 1, none⟩ = some v := by rw [Lib.cell_of_heap hbk]; rfl
  go_wp2_with (at_builtin; refine wpList_append_own _ rfl _ _ 35 rfl B 5 i0 (.int .u8 0) 1 1 Tryd.underlying35 hi hz0 hz1 hz2 rfl (by decide) _ _ _ rfl (hown.alloc _) ⟨w1.heap.size, 0, none⟩ 1 1 [.int .u8 c] rfl rfl ?c1 ?c2 ?c3 ?c4 ?c5 ?_)
  case c1 =>
    intro j u hj
    match j, hj with
    | 0, hj => simp at hj; subst hj; simp [Addr.add]
  case c2 => intro u hu; simp at hu; subst hu; rfl
  case c3 => unfold maxLen; omega
  case c4 => omega
  case c5 => have := hb1.size; simp; omega
  intro v' w2 hown' hgrow _
  have hlt : b < w1.heap.size := by
    rcases Nat.lt_or_ge b w1.heap.size with h' | h'
    · exact h'
    · simp [Array.getElem?_eq_none h'] at hbk
  have hb2 : w2.heap[b]? = some (.cells #[.pointer (some ⟨b, 0, none⟩), v] 68 (0, 0)) := by
    rw [hgrow.block b (by simp; omega) (fun e => hne e.symm), Lib.alloc_old w1 _ b hlt]
    exact hbk
  have d0 : w2.cell? ⟨b, 0, none⟩ = some (.pointer (some ⟨b, 0, none⟩)) := by rw [Lib.cell_of_heap hb2]; rfl
  have d1 : w2.cell? ⟨b, 1, none⟩ = some v := by rw [Lib.cell_of_heap hb2]; rfl
  have f1 : w2.frozen? ⟨b, 1, none⟩ = false := Lib.frozen_of_heap hb2 1
  obtain ⟨g, cap, rfl⟩ : ∃ g cap, v' = .slice (some ⟨g, 0, none⟩) (bs.length + 1) cap := by
    rcases hown'.2 with ⟨_, h0⟩ | ⟨g, cap, cur, hv, _⟩
    · omega
    · exact ⟨g, cap, hv⟩
  go_wp2_with fail
  go_ret
  refine ⟨rfl, ?_, ?_⟩
  · exact Lib.BuilderAt.put (T := 68) (e := 5) hB hb2 (bs' := bs ++ [.int .u8 c]) (by simpa using hown') (by decide)
  · exact ((hb1.alloc (by have := hb1.size; omega) _).grown hgrow (by have := hb1.size; simp; omega) (fun k hk => (hown.lt k hk).1)).setCell (p := ⟨b, 1, none⟩) hB _
theorem forbid_no (c : UInt8) (h10 : c ≠ 10) (h34 : c ≠ 34) (w : World) : Calls Tryd.prog 78 #[.int .i64 2, .int .u8 (c.toNat : Int)] w fun e w' => e = .returned (.bool false) ∧ w = w' := by
  have g10 : ((c.toNat : Int) == 10) = false := neU h10
  have g34 : ((c.toNat : Int) == 34) = false := neU h34
  generalize (c.toNat : Int) = z at *
  go_enter Tryd.func78, Tryd.ntmps78
  go_wp2_with fail
  go_ret
  exact ⟨rfl, rfl⟩
end Go.Proofs.YtpionddponmdmaaDoor
