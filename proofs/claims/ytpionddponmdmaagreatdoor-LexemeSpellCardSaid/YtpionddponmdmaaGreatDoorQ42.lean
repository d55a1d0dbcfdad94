/- Walks: the reference's escaped form of a string. -/
import Derived.Test.YtpionddponmdmaaGreatDoorQ41
namespace Go.Proofs.YtpionddponmdmaaGreatDoor
open Go.RowKit
attribute [local go_sem] Ext.cell Ext.frozen
attribute [local go_sem ↓] Go.wp_at_zero Go.wp_at_succ
set_option maxRecDepth 20000 in
set_option maxHeartbeats 4000000 in
theorem resc_one (c : UInt8) (b : Bool) (w : World) : Calls Tryz.prog 35 #[.int .i64 2, .int .u8 (c.toNat : Int), .bool b] w fun e w' => e = .returned (.string (bs (escC c))) ∧ Below w.heap.size w w' := by
  by_cases h10 : c = 10
  · subst h10
    have kc := convH 10 10 rfl
    go_enter Tryz.func35, Tryz.ntmps35
    go_wp2_with fail
    go_ret
    exact ⟨rfl, (Below.refl _ _).alloc (Nat.le_refl _) _⟩
  by_cases h13 : c = 13
  · subst h13
    have kc := convH 13 13 rfl
    go_enter Tryz.func35, Tryz.ntmps35
    go_wp2_with fail
    go_ret
    exact ⟨rfl, (Below.refl _ _).alloc (Nat.le_refl _) _⟩
  by_cases h9 : c = 9
  · subst h9
    have kc := convH 9 9 rfl
    go_enter Tryz.func35, Tryz.ntmps35
    go_wp2_with fail
    go_ret
    exact ⟨rfl, (Below.refl _ _).alloc (Nat.le_refl _) _⟩
  by_cases h92 : c = 92
  · subst h92
    have kc := convH 92 92 rfl
    have ha := fun w => run_string_add_sum (P := Tryz.prog) (w := w) ⟨#[92]⟩ (bs [92]) (by decide)
    go_enter Tryz.func35, Tryz.ntmps35
    go_wp2_with fail
    go_ret
    exact ⟨rfl, (Below.refl _ _).alloc (Nat.le_refl _) _⟩
  by_cases h34 : c = 34
  · subst h34
    have kc := convH 34 34 rfl
    have ha := fun w => run_string_add_sum (P := Tryz.prog) (w := w) ⟨#[92]⟩ (bs [34]) (by decide)
    go_enter Tryz.func35, Tryz.ntmps35
    go_wp2_with fail
    go_ret
    exact ⟨rfl, (Below.refl _ _).alloc (Nat.le_refl _) _⟩
  have g92 : ((c.toNat : Int) == 92) = false := neU h92
  have g10 : ((c.toNat : Int) == 10) = false := neU h10
  have g13 : ((c.toNat : Int) == 13) = false := neU h13
  have g9 : ((c.toNat : Int) == 9) = false := neU h9
  have g34 : ((c.toNat : Int) == 34) = false := neU h34
  have kc := convH (c.toNat : Int) c rfl
  have hlt := c.toNat_lt
  have c8 : (c.toNat : Int) < 256 := by omega
  have c0 : (0 : Int) ≤ (c.toNat : Int) := by omega
  by_cases hc : c.toNat < 32 ∨ c.toNat = 127
  · have HO : Hid (escC c = [92, 120, hexD (c.toNat / 16), hexD (c.toNat % 16)]) := by unfold Hid escC; rw [if_neg h92, if_neg h10, if_neg h13, if_neg h9, if_neg h34, if_pos hc]
    have HX := Lib.hid (fun w => rhex_any c.toNat hlt w)
    have hs : (bs [hexD (c.toNat / 16), hexD (c.toNat % 16)]).size = 2 := by rw [bs_size]; rfl
    have ha := fun w => run_string_add_sum (P := Tryz.prog) (w := w) ⟨#[92, 120]⟩ (bs [hexD (c.toNat / 16), hexD (c.toNat % 16)]) (by rw [hs]; decide)
    have HE : Hid (⟨#[92, 120]⟩ ++ bs [hexD (c.toNat / 16), hexD (c.toNat % 16)] = bs [92, 120, hexD (c.toNat / 16), hexD (c.toNat % 16)]) := bs_append [92, 120] _
    rcases hc with hc | hc
    · have k1 : (c.toNat : Int) < 32 := by omega
      clear h92 h10 h13 h9 h34 hc hs
      generalize bs [hexD (c.toNat / 16), hexD (c.toNat % 16)] = D at *
      go_enter Tryz.func35, Tryz.ntmps35
      go_wp2_with fail
      refine (HX.out _).mono ?_
      rintro e w2 ⟨rfl, hb2⟩
      have HB2 := Lib.hid hb2
      clear hb2
      go_wp2_with fail
      go_ret
      exact ⟨by rw [HO.out, ← HE.out]; rfl, ((Below.refl _ _).alloc (Nat.le_refl _) _).trans (HB2.out.mono (by simp))⟩
    · have k1 : ¬ (c.toNat : Int) < 32 := by omega
      have k2 : ((c.toNat : Int) == 127) = true := by simp only [beq_iff_eq]; omega
      clear h92 h10 h13 h9 h34 hc hs
      generalize bs [hexD (c.toNat / 16), hexD (c.toNat % 16)] = D at *
      go_enter Tryz.func35, Tryz.ntmps35
      go_wp2_with fail
      refine (HX.out _).mono ?_
      rintro e w2 ⟨rfl, hb2⟩
      have HB2 := Lib.hid hb2
      clear hb2
      go_wp2_with fail
      go_ret
      exact ⟨by rw [HO.out, ← HE.out]; rfl, ((Below.refl _ _).alloc (Nat.le_refl _) _).trans (HB2.out.mono (by simp))⟩
  · have HO : Hid (escC c = [c]) := by unfold Hid escC; rw [if_neg h92, if_neg h10, if_neg h13, if_neg h9, if_neg h34, if_neg hc]
    have k1 : ¬ (c.toNat : Int) < 32 := by omega
    have k2 : ((c.toNat : Int) == 127) = false := by simp only [beq_eq_false_iff_ne]; omega
    clear h92 h10 h13 h9 h34 hc
    go_enter Tryz.func35, Tryz.ntmps35
    go_wp2_with fail
    go_ret
    exact ⟨by rw [HO.out]; rfl, (Below.refl _ _).alloc (Nat.le_refl _) _⟩
set_option maxRecDepth 20000 in
set_option maxHeartbeats 8000000 in
theorem resc_any (s : ByteArray) (w : World) (hs : s.size ≤ 1000000) : Calls Tryz.prog 20 #[.int .i64 2, .string s] w fun e w' => e = .returned (.string (bs (escS s.data.toList))) ∧ Below w.heap.size w w' := by
  have HSTY := Lib.hid rstyle_any
  obtain ⟨i0, hi, hz0, hz1, hz2⟩ := info_parts Tryz.Builder_Extra_169.infoByte
  have HI := Lib.hid hi
  have HZ0 := Lib.hid hz0
  have HZ1 := Lib.hid hz1
  have HZ2 := Lib.hid hz2
  have hsl : s.data.toList.length = s.size := ba_len s
  have HSL := Lib.hid hsl
  have HAT : Hid (∀ (i : Nat) (g : i < s.size), s[i]'g = s.data.toList.getD i 0) := fun i g => ba_at s.data.toList g
  generalize s.data.toList = l at *
  have HLE := Lib.hid (fun k => escS_len (l.take k))
  clear hsl hi hz0 hz1 hz2
  go_enter Tryz.func20, Tryz.ntmps20
  go_wp2_with fail
  refine (HSTY.out _).mono ?_
  rintro e _ ⟨rfl, rfl⟩
  go_wp2_with fail
  go_loopw [5, 6] (fun o i wr => ∃ (j : Nat) (acc : List UInt8) (ad : Option Addr) (c : Nat), j ≤ l.length ∧ acc = escS (l.take j) ∧ o = .slice ad acc.length c ∧ i = .int .i64 (j : Int) ∧ wr.ownsRow w.heap.size 5 1 (.slice ad acc.length c) acc.length (Lib.byteCells acc) ∧ Below w.heap.size w wr) (fun _ i _ => l.length - (intOf i).toNat)
  case atStart => exact ⟨0, [], none, 0, Nat.zero_le _, by rw [List.take_zero]; rfl, rfl, rfl, World.ownsRow_nil _ _ _ _, Below.refl _ _⟩
  case round =>
    obtain ⟨j, acc, ad, c, hj, hacc, rfl, rfl, hown, hbl⟩ := hrel
    have HOWN := Lib.hid hown
    have HBL := Lib.hid hbl
    have HACC := Lib.hid hacc
    have hzr := hbl.size
    have hal : acc.length ≤ 4000000 := by have h1 := HLE.out j; rw [← HACC.out, List.length_take] at h1; have := HSL.out; omega
    clear hown hbl hacc
    by_cases hlt : j < l.length
    · have hN : j < s.size := by rw [← HSL.out]; exact hlt
      have hix : ∀ g : j < s.size, s[j]'g = l.getD j 0 := fun g => HAT.out j g
      have HJ := Lib.hid hlt
      have HTK := Lib.hid (escS_take l j hlt)
      have hel := escC_len (l.getD j 0)
      have HON := Lib.hid (fun b w => resc_one (l.getD j 0) b w)
      have HSE : Hid ((bs (escC (l.getD j 0))).size = (escC (l.getD j 0)).length) := bs_size _
      clear hlt
      generalize l.getD j 0 = ch at *
      generalize hE : escC ch = E at *
      clear hE
      go_wp2_with fail
      refine (HON.out _ _).mono ?_
      rintro e w2 ⟨rfl, hb2⟩
      have hzx : w.heap.size ≤ w2.heap.size := Nat.le_trans hzr hb2.size
      have HO2 := Lib.hid (own_below2 HOWN.out hb2)
      have HBX : Hid (Below w.heap.size w w2) := HBL.out.trans (hb2.mono hzr)
      clear hb2
      go_wp2_with (at_builtin; refine Lib.wpList_append_own_string _ rfl _ _ 59 9 rfl w.heap.size 5 i0 Tryz.underlying59 Tryz.underlying9 HI.out HZ0.out HZ1.out HZ2.out _ acc.length _ rfl HO2.out (bs E) rfl (by rw [HSE.out]; unfold maxLen; omega) (by rw [HSE.out]; omega) hzx ?_; intro v' w3 hown3 hgrow _; have HOWN3 := Lib.hid hown3; have HG3 := Lib.hid hgrow; clear hown3 hgrow)
      have hown4 : w3.ownsRow w.heap.size 5 1 v' (acc ++ E).length (Lib.byteCells (acc ++ E)) := by
        have := HOWN3.out
        rw [HSE.out, show Lib.byteCells acc ++ Lib.strCells (bs E) = Lib.byteCells (acc ++ E) by rw [Lib.strCells_eq, bs_data]; simp [Lib.byteCells]] at this
        rw [List.length_append]
        exact this
      obtain ⟨ad6, c6, rfl⟩ := own_form_k hown4
      have HO6 := Lib.hid hown4
      have HB6 : Hid (Below w.heap.size w w3) := HBX.out.grown HG3.out hzx (fun k hk => (HO2.out.lt k hk).1)
      clear hown4
      go_wp2_with fail
      go_roundw
      case rel => exact ⟨j + 1, acc ++ E, ad6, c6, HJ.out, by rw [HTK.out, HACC.out], rfl, by go_num, HO6.out, HB6.out⟩
      case measure => have := HJ.out; simp [intOf]; omega
    · obtain rfl : j = l.length := by omega
      have HEQ : Hid (acc = escS l) := by have := HACC.out; rwa [List.take_length] at this
      have hN : ¬ l.length < s.size := by rw [← HSL.out]; omega
      have hcv := conv_own HOWN.out
      go_wp2_with fail
      go_ret
      exact ⟨by rw [← HEQ.out]; rfl, HBL.out⟩
end Go.Proofs.YtpionddponmdmaaGreatDoor
