/- Walks: the reference's escaped form of a string. -/
import Derived.Test.YtkkggpahanddnaaGreatDoorQ08
import Derived.Deep.DeepCutAuto
import Derived.Lib.ItoaLen
import Derived.Test.YtkkggpahanddnaaGreatDoorQ06
namespace Go.Proofs.YtkkggpahanddnaaGreatDoor
open Go.RowKit
attribute [local go_sem] Ext.cell Ext.frozen
attribute [local go_sem ↓] Go.wp_at_zero Go.wp_at_succ
set_option maxRecDepth 20000 in
set_option maxHeartbeats 4000000 in
theorem resc_one (c : UInt8) (b : Bool) (w : World) : Calls Tryz.prog 41 #[.int .i64 2, .int .u8 (c.toNat : Int), .bool b] w fun e w' => e = .returned (.string (bs (escC c))) ∧ Below w.heap.size w w' := by
  by_cases h10 : c = 10
  · subst h10
    have kc := convH 10 10 rfl
    go_enter Tryz.func41, Tryz.ntmps41
    go_wp2_with fail
    go_ret
    exact ⟨rfl, (Below.refl _ _).alloc (Nat.le_refl _) _⟩
  by_cases h13 : c = 13
  · subst h13
    have kc := convH 13 13 rfl
    go_enter Tryz.func41, Tryz.ntmps41
    go_wp2_with fail
    go_ret
    exact ⟨rfl, (Below.refl _ _).alloc (Nat.le_refl _) _⟩
  by_cases h9 : c = 9
  · subst h9
    have kc := convH 9 9 rfl
    go_enter Tryz.func41, Tryz.ntmps41
    go_wp2_with fail
    go_ret
    exact ⟨rfl, (Below.refl _ _).alloc (Nat.le_refl _) _⟩
  by_cases h92 : c = 92
  · subst h92
    have kc := convH 92 92 rfl
    have ha := fun w => run_string_add_sum (P := Tryz.prog) (w := w) ⟨#[92]⟩ (bs [92]) (by decide)
    go_enter Tryz.func41, Tryz.ntmps41
    go_wp2_with fail
    go_ret
    exact ⟨rfl, (Below.refl _ _).alloc (Nat.le_refl _) _⟩
  by_cases h34 : c = 34
  · subst h34
    have kc := convH 34 34 rfl
    have ha := fun w => run_string_add_sum (P := Tryz.prog) (w := w) ⟨#[92]⟩ (bs [34]) (by decide)
    go_enter Tryz.func41, Tryz.ntmps41
    go_wp2_with fail
    go_ret
    exact ⟨rfl, (Below.refl _ _).alloc (Nat.le_refl _) _⟩
  have g92 : ((c.toNat : Int) == 92) = false := neU h92
  have g10 : ((c.toNat : Int) == 10) = false := neU h10
  have g13 : ((c.toNat : Int) == 13) = false := neU h13
  have g9 : ((c.toNat : Int) == 9) = false := neU h9
  have g34 : ((c.toNat : Int) == 34) = false := neU h34
  have kc := convH (c.toNat : Int) c rfl
  have hlt := c.toNat_lt
  have c8 : (c.toNat : Int) < 256 := by omega
  have c0 : (0 : Int) ≤ (c.toNat : Int) := by omega
  by_cases hc : c.toNat < 32 ∨ c.toNat = 127
  · have HO : Hid (escC c = [92, 120, hexD (c.toNat / 16), hexD (c.toNat % 16)]) := by unfold Hid escC; rw [if_neg h92, if_neg h10, if_neg h13, if_neg h9, if_neg h34, if_pos hc]
    have HX := Lib.hid (fun w => rhex_any c.toNat hlt w)
    have hs : (bs [hexD (c.toNat / 16), hexD (c.toNat % 16)]).size = 2 := by rw [bs_size]; rfl
    have ha := fun w => run_string_add_sum (P := Tryz.prog) (w := w) ⟨#[92, 120]⟩ (bs [hexD (c.toNat / 16), hexD (c.toNat % 16)]) (by rw [hs]; decide)
    have HE : Hid (⟨#[92, 120]⟩ ++ bs [hexD (c.toNat / 16), hexD (c.toNat % 16)] = bs [92, 120, hexD (c.toNat / 16), hexD (c.toNat % 16)]) := bs_append [92, 120] _
    rcases hc with hc | hc
    · have k1 : (c.toNat : Int) < 32 := by omega
      clear h92 h10 h13 h9 h34 hc hs
      generalize bs [hexD (c.toNat / 16), hexD (c.toNat % 16)] = D at *
      go_enter Tryz.func41, Tryz.ntmps41
      go_wp2_with fail
      refine (HX.out _).mono ?_
      rintro e w2 ⟨rfl, hb2⟩
      have HB2 := Lib.hid hb2
      clear hb2
      go_wp2_with fail
      go_ret
      exact ⟨by rw [HO.out, ← HE.out]; rfl, ((Below.refl _ _).alloc (Nat.le_refl _) _).trans (HB2.out.mono (by simp))⟩
    · have k1 : ¬ (c.toNat : Int) < 32 := by omega
      have k2 : ((c.toNat : Int) == 127) = true := by simp only [beq_iff_eq]; omega
      clear h92 h10 h13 h9 h34 hc hs
      generalize bs [hexD (c.toNat / 16), hexD (c.toNat % 16)] = D at *
      go_enter Tryz.func41, Tryz.ntmps41
      go_wp2_with fail
      refine (HX.out _).mono ?_
      rintro e w2 ⟨rfl, hb2⟩
      have HB2 := Lib.hid hb2
      clear hb2
      go_wp2_with fail
      go_ret
      exact ⟨by rw [HO.out, ← HE.out]; rfl, ((Below.refl _ _).alloc (Nat.le_refl _) _).trans (HB2.out.mono (by simp))⟩
  · have HO : Hid (escC c = [c]) := by unfold Hid escC; rw [if_neg h92, if_neg h10, if_neg h13, if_neg h9, if_neg h34, if_neg hc]
    have k1 : ¬ (c.toNat : Int) < 32 := by omega
    have k2 : ((c.toNat : Int) == 127) = false := by simp only [beq_eq_false_iff_ne]; omega
    clear h92 h10 h13 h9 h34 hc
    go_enter Tryz.func41, Tryz.ntmps41
    go_wp2_with fail
    go_ret
    exact ⟨by rw [HO.out]; rfl, (Below.refl _ _).alloc (Nat.le_refl _) _⟩
set_option maxRecDepth 20000 in
set_option maxHeartbeats 8000000 in
theorem resc_any (s : ByteArray) (w : World) (hs : s.size ≤ 1000000) : Calls Tryz.prog 23 #[.int .i64 2, .string s] w fun e w' => e = .returned (.string (bs (escS s.data.toList))) ∧ Below w.heap.size w w' := by
  have HSTY := Lib.hid rstyle_any
  obtain ⟨i0, hi, hz0, hz1, hz2⟩ := info_parts Tryz.Builder_Extra_169.infoByte
  have HI := Lib.hid hi
  have HZ0 := Lib.hid hz0
  have HZ1 := Lib.hid hz1
  have HZ2 := Lib.hid hz2
  have hsl : s.data.toList.length = s.size := ba_len s
  have HSL := Lib.hid hsl
  have HAT : Hid (∀ (i : Nat) (g : i < s.size), s[i]'g = s.data.toList.getD i 0) := fun i g => ba_at s.data.toList g
  generalize s.data.toList = l at *
  have HLE := Lib.hid (fun k => escS_len (l.take k))
  clear hsl hi hz0 hz1 hz2
  go_enter Tryz.func23, Tryz.ntmps23
  go_wp2_with fail
  refine (HSTY.out _).mono ?_
  rintro e _ ⟨rfl, rfl⟩
  go_wp2_with fail
  go_loopw [5, 6] (fun o i wr => ∃ (j : Nat) (acc : List UInt8) (ad : Option Addr) (c : Nat), j ≤ l.length ∧ acc = escS (l.take j) ∧ o = .slice ad acc.length c ∧ i = .int .i64 (j : Int) ∧ wr.ownsRow w.heap.size 5 1 (.slice ad acc.length c) acc.length (Lib.byteCells acc) ∧ Below w.heap.size w wr) (fun _ i _ => l.length - (intOf i).toNat)
  case atStart => exact ⟨0, [], none, 0, Nat.zero_le _, by rw [List.take_zero]; rfl, rfl, rfl, World.ownsRow_nil _ _ _ _, Below.refl _ _⟩
  case round =>
    obtain ⟨j, acc, ad, c, hj, hacc, rfl, rfl, hown, hbl⟩ := hrel
    have HOWN := Lib.hid hown
    have HBL := Lib.hid hbl
    have HACC := Lib.hid hacc
    have hzr := hbl.size
    have hal : acc.length ≤ 4000000 := by have h1 := HLE.out j; rw [← HACC.out, List.length_take] at h1; have := HSL.out; omega
    clear hown hbl hacc
    by_cases hlt : j < l.length
    · have hN : j < s.size := by rw [← HSL.out]; exact hlt
      have hix : ∀ g : j < s.size, s[j]'g = l.getD j 0 := fun g => HAT.out j g
      have HJ := Lib.hid hlt
      have HTK := Lib.hid (escS_take l j hlt)
      have hel := escC_len (l.getD j 0)
      have HON := Lib.hid (fun b w => resc_one (l.getD j 0) b w)
      have HSE : Hid ((bs (escC (l.getD j 0))).size = (escC (l.getD j 0)).length) := bs_size _
      clear hlt
      generalize l.getD j 0 = ch at *
      generalize hE : escC ch = E at *
      clear hE
      go_wp2_with fail
      refine (HON.out _ _).mono ?_
      rintro e w2 ⟨rfl, hb2⟩
      have hzx : w.heap.size ≤ w2.heap.size := Nat.le_trans hzr hb2.size
      have HO2 := Lib.hid (own_below2 HOWN.out hb2)
      have HBX : Hid (Below w.heap.size w w2) := HBL.out.trans (hb2.mono hzr)
      clear hb2
      go_wp2_with (at_builtin; refine Lib.wpList_append_own_string _ rfl _ _ 70 9 rfl w.heap.size 5 i0 Tryz.underlying70 Tryz.underlying9 HI.out HZ0.out HZ1.out HZ2.out _ acc.length _ rfl HO2.out (bs E) rfl (by rw [HSE.out]; unfold maxLen; omega) (by rw [HSE.out]; omega) hzx ?_; intro v' w3 hown3 hgrow _; have HOWN3 := Lib.hid hown3; have HG3 := Lib.hid hgrow; clear hown3 hgrow)
      have hown4 : w3.ownsRow w.heap.size 5 1 v' (acc ++ E).length (Lib.byteCells (acc ++ E)) := by
        have := HOWN3.out
        rw [HSE.out, show Lib.byteCells acc ++ Lib.strCells (bs E) = Lib.byteCells (acc ++ E) by rw [Lib.strCells_eq, bs_data]; simp [Lib.byteCells]] at this
        rw [List.length_append]
        exact this
      obtain ⟨ad6, c6, rfl⟩ := own_form_k hown4
      have HO6 := Lib.hid hown4
      have HB6 : Hid (Below w.heap.size w w3) := HBX.out.grown HG3.out hzx (fun k hk => (HO2.out.lt k hk).1)
      clear hown4
      go_wp2_with fail
      go_roundw
      case rel => exact ⟨j + 1, acc ++ E, ad6, c6, HJ.out, by rw [HTK.out, HACC.out], rfl, by go_num, HO6.out, HB6.out⟩
      case measure => have := HJ.out; simp [intOf]; omega
    · obtain rfl : j = l.length := by omega
      have HEQ : Hid (acc = escS l) := by have := HACC.out; rwa [List.take_length] at this
      have hN : ¬ l.length < s.size := by rw [← HSL.out]; omega
      have hcv := conv_own HOWN.out
      go_wp2_with fail
      go_ret
      exact ⟨by rw [← HEQ.out]; rfl, HBL.out⟩
end Go.Proofs.YtkkggpahanddnaaGreatDoor
/- Walks: the reference's Digits. -/
namespace Go.Proofs.YtkkggpahanddnaaGreatDoor
open Go.RowKit
attribute [local go_sem] Ext.cell Ext.frozen
attribute [local go_sem ↓] Go.wp_at_zero Go.wp_at_succ
def digS (m : Nat) : List UInt8 := if m = 0 then [] else Lib.decDigits m
theorem digS_step {m : Nat} (h : m ≠ 0) : digS m = digS (m / 10) ++ [UInt8.ofNat (48 + m % 10)] := by
  unfold digS
  rw [if_neg h]
  by_cases h1 : m < 10
  · rw [if_pos (by omega), Lib.decDigits_one h1, show m % 10 = m by omega]; rfl
  · rw [if_neg (by omega), Lib.decDigits, dif_neg h1]
theorem dec_step (m : Nat) : Lib.decDigits m = digS (m / 10) ++ [UInt8.ofNat (48 + m % 10)] := by
  by_cases h1 : m < 10
  · rw [Lib.decDigits_one h1, show m % 10 = m by omega, show m / 10 = 0 by omega]; rfl
  · rw [Lib.decDigits, dif_neg h1]; unfold digS; rw [if_neg (by omega)]
theorem cutD {d : Nat} (h : d < 10) : ∃ T : ByteArray, (⟨#[48, 49, 50, 51, 52, 53, 54, 55, 56, 57]⟩ : ByteArray).extract d 10 = T ∧ 1 ≤ T.size ∧ T.size ≤ 10 ∧ T.extract 0 1 = bs [UInt8.ofNat (48 + d)] := by
  have k : ∀ v : Fin 10, ((⟨#[48, 49, 50, 51, 52, 53, 54, 55, 56, 57]⟩ : ByteArray).extract v.1 10).size = 10 - v.1 ∧
      (((⟨#[48, 49, 50, 51, 52, 53, 54, 55, 56, 57]⟩ : ByteArray).extract v.1 10).extract 0 1).data.toList = [UInt8.ofNat (48 + v.1)] := by decide +kernel
  obtain ⟨h1, h2⟩ := k ⟨d, h⟩
  refine ⟨_, rfl, by rw [h1]; omega, by rw [h1]; omega, ?_⟩
  refine ByteArray.ext (Array.toList_inj.1 ?_)
  rw [h2]
  rfl
theorem itoa_neg {K : Nat} (h : 0 < K) : Lib.itoa (-(K : Int)) = 45 :: digS K := by
  unfold Lib.itoa digS
  rw [if_pos (by omega), if_neg (by omega), show (-(K : Int)).natAbs = K by omega]
set_option maxRecDepth 20000 in
set_option maxHeartbeats 8000000 in
theorem rdigits_neg (K : Nat) (h0 : 0 < K) (h1 : K ≤ 9223372036854775808) (w : World) : Calls Tryz.prog 22 #[.int .i64 (-(K : Int))] w fun e w' => e = .returned (.string (bs (Lib.itoa (-(K : Int))))) ∧ w = w' := by
  have hln := Lib.itoa_length_le (-(K : Int)) (by omega) (by omega)
  rw [itoa_neg h0, List.length_cons] at hln
  rw [itoa_neg h0]
  have HLN := Lib.hid hln
  have hneg : (-(K : Int)) < 0 := by omega
  clear hln
  go_enter Tryz.func22, Tryz.ntmps22
  go_wp2_with fail
  go_loop [3, 4] (fun s m => ∃ (k : Nat) (S : List UInt8), m = .int .i64 (-(k : Int)) ∧ k ≤ 9223372036854775808 ∧ s = .string (bs S) ∧ digS k ++ S = digS K) (fun _ m => (intOf m).natAbs)
  case atStart => exact ⟨K, [], rfl, h1, rfl, List.append_nil _⟩
  case round =>
    obtain ⟨k, S, rfl, hk, rfl, hS⟩ := hrel
    have hSl : S.length ≤ 21 := by
      have := congrArg List.length hS
      rw [List.length_append] at this
      have h3 := HLN.out
      omega
    have hSz : (bs S).size ≤ 21 := by rw [bs_size]; exact hSl
    have HS := Lib.hid hS
    clear hS hSl
    by_cases hk0 : k = 0
    · subst hk0
      have ha := fun w => run_string_add_sum (P := Tryz.prog) (w := w) ⟨#[45]⟩ (bs S) (by rw [show (⟨#[45]⟩ : ByteArray).size = 1 from rfl]; omega)
      have HE : Hid (⟨#[45]⟩ ++ bs S = bs (45 :: digS K)) := by
        unfold Hid
        rw [← HS.out]
        exact bs_append [45] _
      go_wp2_with fail
      go_ret
      exact ⟨by rw [← HE.out]; rfl, rfl⟩
    · have HNX : Hid (digS (k / 10) ++ (UInt8.ofNat (48 + k % 10) :: S) = digS K) := by unfold Hid; rw [← HS.out, digS_step hk0, List.append_assoc]; rfl
      obtain ⟨T, c1, c2, c3, c4⟩ := cutD (d := k % 10) (by omega)
      have HSS : Hid (bs [UInt8.ofNat (48 + k % 10)] ++ bs S = bs (UInt8.ofNat (48 + k % 10) :: S)) := bs_append _ _
      have hs1 : (bs [UInt8.ofNat (48 + k % 10)]).size = 1 := by rw [bs_size]; rfl
      have ha := fun w => run_string_add_sum (P := Tryz.prog) (w := w) (bs [UInt8.ofNat (48 + k % 10)]) (bs S) (by omega)
      have hne : ((-(k : Int)) == 0) = false := by simp only [beq_eq_false_iff_ne]; omega
      have q1 : (-(k : Int)).tdiv 10 = -((k / 10 : Nat) : Int) := by rw [Int.neg_tdiv, Int.tdiv_eq_ediv_of_nonneg (by omega)]; omega
      have q2 : (-(k : Int)).tmod 10 = -((k % 10 : Nat) : Int) := by rw [Int.neg_tmod, Int.tmod_eq_emod_of_nonneg (by omega)]; omega
      have hd : k % 10 < 10 := by omega
      have hk1 : k / 10 ≤ 9223372036854775808 := by omega
      have HKK : Hid (k / 10 < k) := by unfold Hid; omega
      generalize UInt8.ofNat (48 + k % 10) = ch at *
      generalize k % 10 = d at *
      generalize hkq : k / 10 = q at *
      obtain ⟨z, hz⟩ : ∃ z, -(k : Int) = z := ⟨_, rfl⟩
      rw [hz] at q1 q2 hne
      rw [hz]
      have z1 : z ≤ 0 := by omega
      have z2 : -9223372036854775808 ≤ z := by omega
      have HZ := Lib.hid hz
      generalize bs [ch] = CH at *
      generalize bs S = SS at *
      clear hkq hz hk0 hneg h0 h1 hk
      have u1 : IntKind.i64.wrap (-(-(d : Int))) = (d : Int) := by rw [Int.neg_neg]; exact IntWalk.i64_in _ (by omega)
      have d0 : (0 : Int) ≤ (d : Int) := by omega
      have d9 : (d : Int) ≤ 10 := by omega
      go_wp2_with fail
      go_round
      case rel => exact ⟨q, ch :: S, rfl, hk1, by rw [← HSS.out], HNX.out⟩
      case measure => have := HKK.out; have := HZ.out; simp only [intOf]; omega
theorem itoa_pos (K : Nat) : Lib.itoa (K : Int) = Lib.decDigits K := by
  unfold Lib.itoa
  rw [if_neg (by omega), Int.toNat_natCast]
set_option maxRecDepth 20000 in
set_option maxHeartbeats 8000000 in
theorem rdigits_pos (K : Nat) (h1 : K ≤ 9223372036854775807) (w : World) : Calls Tryz.prog 22 #[.int .i64 (K : Int)] w fun e w' => e = .returned (.string (bs (Lib.itoa (K : Int)))) ∧ w = w' := by
  have hln := Lib.itoa_length_le (K : Int) (by omega) (by omega)
  rw [itoa_pos] at hln
  rw [itoa_pos]
  have HLN := Lib.hid hln
  have hneg : ¬ (K : Int) < 0 := by omega
  have HST := Lib.hid (dec_step K)
  obtain ⟨T, c1, c2, c3, c4⟩ := cutD (d := K % 10) (by omega)
  have e1 : (K : Int).tmod 10 = ((K % 10 : Nat) : Int) := by rw [Int.tmod_eq_emod_of_nonneg (by omega)]; omega
  have e2 : (K : Int).tdiv 10 = ((K / 10 : Nat) : Int) := by rw [Int.tdiv_eq_ediv_of_nonneg (by omega)]; omega
  have d0 : (0 : Int) ≤ ((K % 10 : Nat) : Int) := by omega
  have d9 : ((K % 10 : Nat) : Int) ≤ 10 := by omega
  have d8 : K % 10 < 10 := by omega
  have hq : K / 10 ≤ 9223372036854775807 := by omega
  generalize Lib.decDigits K = D at *
  generalize UInt8.ofNat (48 + K % 10) = ch0 at *
  obtain ⟨CH, hCH⟩ : ∃ CH, bs [ch0] = CH := ⟨_, rfl⟩
  have HC0 := Lib.hid hCH
  rw [hCH] at c4
  obtain ⟨d, hd⟩ : ∃ d, K % 10 = d := ⟨_, rfl⟩
  obtain ⟨q, hqq⟩ : ∃ q, K / 10 = q := ⟨_, rfl⟩
  rw [hd] at c1 e1 d0 d9 d8
  rw [hqq] at e2 hq HST
  obtain ⟨z, hz⟩ : ∃ z, (K : Int) = z := ⟨_, rfl⟩
  rw [hz] at e1 e2 hneg
  have hz0 : 0 ≤ z := by omega
  have hz1 : z ≤ 9223372036854775807 := by omega
  rw [hz]
  clear hln hCH hd hqq hz
  go_enter Tryz.func22, Tryz.ntmps22
  go_wp2_with fail
  go_loop [5, 6] (fun s m => ∃ (k : Nat) (S : List UInt8), m = .int .i64 (k : Int) ∧ k ≤ 9223372036854775807 ∧ s = .string (bs S) ∧ digS k ++ S = D) (fun _ m => (intOf m).natAbs)
  case atStart => exact ⟨q, [ch0], rfl, hq, by rw [HC0.out], HST.out.symm⟩
  case round =>
    obtain ⟨k, S, rfl, hk, rfl, hS⟩ := hrel
    have hSl : S.length ≤ 21 := by
      have := congrArg List.length hS
      rw [List.length_append] at this
      have h3 := HLN.out
      omega
    have hSz : (bs S).size ≤ 21 := by rw [bs_size]; exact hSl
    have HS := Lib.hid hS
    clear hS hSl c1 c2 c3 c4 e1 e2 d0 d9 d8
    by_cases hk0 : k = 0
    · subst hk0
      have HE : Hid (S = D) := HS.out
      go_wp2_with fail
      go_ret
      exact ⟨by rw [← HE.out]; rfl, rfl⟩
    · have HNX : Hid (digS (k / 10) ++ (UInt8.ofNat (48 + k % 10) :: S) = D) := by unfold Hid; rw [← HS.out, digS_step hk0, List.append_assoc]; rfl
      obtain ⟨T, c1, c2, c3, c4⟩ := cutD (d := k % 10) (by omega)
      have HSS : Hid (bs [UInt8.ofNat (48 + k % 10)] ++ bs S = bs (UInt8.ofNat (48 + k % 10) :: S)) := bs_append _ _
      have hs1 : (bs [UInt8.ofNat (48 + k % 10)]).size = 1 := by rw [bs_size]; rfl
      have ha := fun w => run_string_add_sum (P := Tryz.prog) (w := w) (bs [UInt8.ofNat (48 + k % 10)]) (bs S) (by omega)
      have hne : 0 < (k : Int) := by omega
      have q1 : (k : Int).tdiv 10 = ((k / 10 : Nat) : Int) := by rw [Int.tdiv_eq_ediv_of_nonneg (by omega)]; omega
      have q2 : (k : Int).tmod 10 = ((k % 10 : Nat) : Int) := by rw [Int.tmod_eq_emod_of_nonneg (by omega)]; omega
      have hd : k % 10 < 10 := by omega
      have hk1 : k / 10 ≤ 9223372036854775807 := by omega
      have HKK : Hid (k / 10 < k) := by unfold Hid; omega
      generalize UInt8.ofNat (48 + k % 10) = ch at *
      generalize k % 10 = d at *
      generalize hkq : k / 10 = q at *
      obtain ⟨z, hz⟩ : ∃ z, (k : Int) = z := ⟨_, rfl⟩
      rw [hz] at q1 q2 hne
      rw [hz]
      have z2 : z ≤ 9223372036854775807 := by omega
      have HZ := Lib.hid hz
      have d0 : (0 : Int) ≤ (d : Int) := by omega
      have d9 : (d : Int) ≤ 10 := by omega
      generalize bs [ch] = CH at *
      generalize bs S = SS at *
      clear hkq hz hk0 hneg hk
      go_wp2_with fail
      go_round
      case rel => exact ⟨q, ch :: S, rfl, hk1, by rw [← HSS.out], HNX.out⟩
      case measure => have := HKK.out; have := HZ.out; simp only [intOf]; omega
theorem rdigits_any (n : Int) (h0 : -9223372036854775808 ≤ n) (h1 : n ≤ 9223372036854775807) (w : World) : Calls Tryz.prog 22 #[.int .i64 n] w fun e w' => e = .returned (.string (bs (Lib.itoa n))) ∧ w = w' := by
  by_cases h : n < 0
  · have e : n = -((n.natAbs : Nat) : Int) := by omega
    rw [e]
    exact rdigits_neg n.natAbs (by omega) (by omega) w
  · have e : n = ((n.toNat : Nat) : Int) := by omega
    rw [e]
    exact rdigits_pos n.toNat (by omega) w
end Go.Proofs.YtkkggpahanddnaaGreatDoor
/- What an escaped text is made of; each sequence is read. -/
namespace Go.Proofs.YtkkggpahanddnaaGreatDoor
open Go.RowKit
theorem esc_cases (c : UInt8) : (escC c = [c] ∧ c ≠ 92 ∧ c ≠ 34 ∧ c ≠ 10) ∨ (∃ tl, escC c = 92 :: tl ∧ ∀ R : List UInt8, R.length ≤ 100000 → ∀ w, Calls Tryz.prog 46 #[.string (bs (escC c ++ R))] w (RbPost c (escC c).length w)) := by
  unfold escC
  split
  · rename_i h; subst h; exact .inr ⟨_, rfl, fun R hR w => rb_self 92 (.inl rfl) R hR w⟩
  · split
    · rename_i h; subst h; exact .inr ⟨_, rfl, fun R hR w => rb_letter 110 10 (.inl ⟨rfl, rfl⟩) R hR w⟩
    · split
      · rename_i h; subst h; exact .inr ⟨_, rfl, fun R hR w => rb_letter 114 13 (.inr (.inl ⟨rfl, rfl⟩)) R hR w⟩
      · split
        · rename_i h; subst h; exact .inr ⟨_, rfl, fun R hR w => rb_letter 116 9 (.inr (.inr ⟨rfl, rfl⟩)) R hR w⟩
        · split
          · rename_i h; subst h; exact .inr ⟨_, rfl, fun R hR w => rb_self 34 (.inr rfl) R hR w⟩
          · split
            · rename_i h; exact .inr ⟨_, rfl, fun R hR w => rb_hex c (by omega) R hR w⟩
            · rename_i h1 h2 _ _ h3 _; exact .inl ⟨rfl, h1, h3, h2⟩
theorem escS_split (x : List UInt8) {j : Nat} (h : j < x.length) : escS x = escS (x.take j) ++ (escC (x.getD j 0) ++ escS (x.drop (j + 1))) := by
  have e : x = x.take j ++ (x.getD j 0 :: x.drop (j + 1)) := by rw [← drop_at h, List.take_append_drop]
  have k : ∀ a b : List UInt8, escS (a ++ b) = escS a ++ escS b := fun a b => by simp [escS]
  have k2 : ∀ (c : UInt8) (b : List UInt8), escS (c :: b) = escC c ++ escS b := fun c b => by simp [escS]
  conv => lhs; rw [e, k, k2]
theorem at_split (A T : List UInt8) (h : UInt8) (g : A.length < (bs (A ++ h :: T)).size) : (bs (A ++ h :: T))[A.length]'g = h := by
  have e : (bs (A ++ h :: T))[A.length]'g = (A ++ h :: T)[A.length]'(by simp) := rfl
  rw [e]
  simp
theorem cut_split (A B : List UInt8) : (bs (A ++ B)).extract A.length (bs (A ++ B)).size = bs B := by
  rw [bs_extract, bs_size, List.take_length, List.drop_left]
end Go.Proofs.YtkkggpahanddnaaGreatDoor
/- Walk: the program reads an escaped text back. -/
namespace Go.Proofs.YtkkggpahanddnaaGreatDoor
open Go.RowKit
attribute [local go_sem] Ext.cell Ext.frozen
attribute [local go_sem ↓] Go.wp_at_zero Go.wp_at_succ
theorem escS_take_len (x : List UInt8) {j : Nat} (h : j < x.length) : (escS (x.take (j + 1))).length = (escS (x.take j)).length + (escC (x.getD j 0)).length := by
  rw [escS_take x j h, List.length_append]
set_option maxRecDepth 20000 in
set_option maxHeartbeats 4000000 in
theorem unesc_any (x : List UInt8) (w : World) (hx : x.length ≤ 3000) :
    Calls Tryz.prog 29 #[.int .i64 2, .string (bs (escS x))] w fun e w' => e = .returned (.tuple #[.string (bs x), .int .i64 0, .int .i64 0]) ∧ Below w.heap.size w w' := by
  have HST := Lib.hid style_any
  have hL := escS_len x
  have hsz : (bs (escS x)).size = (escS x).length := bs_size _
  have HSZ := Lib.hid hsz
  have HSP := Lib.hid (fun j (h : j < x.length) => escS_split x h)
  have hle : (bs (escS x)).size ≤ 12000 := by omega
  clear hL hsz
  go_enter Tryz.func29, Tryz.ntmps29
  go_wp2_with fail
  refine (HST.out _).mono ?_
  rintro e _ ⟨rfl, rfl⟩
  go_wp2_with fail
  refine wp_at_worldH ?_
  intro W hW
  have b1 : Lib.IsBuilder 72 5 w.heap.size w.heap.size (Lib.byteCells []) W := by
    refine .inl ⟨Nat.le_refl _, .slice none 0 0, ?_, World.ownsRow_nil _ _ _ _, by simp [Value.ownBlock]⟩
    rw [hW]
    exact row_new _ _ _
  have HB0 : Hid (Below w.heap.size w W) := by rw [hW]; exact (Below.refl _ _).alloc (Nat.le_refl _) _
  have HB1 := Lib.hid b1
  clear b1 hW
  go_loopw [10] (fun i wr => ∃ j : Nat, j ≤ x.length ∧ i = .int .i64 ((escS (x.take j)).length : Int) ∧ Lib.IsBuilder 72 5 w.heap.size w.heap.size (Lib.byteCells (x.take j)) wr ∧ Below w.heap.size w wr) (fun i _ => (escS x).length - (intOf i).toNat)
  case atStart => exact ⟨0, Nat.zero_le _, rfl, HB1.out, HB0.out⟩
  case round =>
    obtain ⟨j, hj, rfl, hbu, hbl⟩ := hrel
    have HBU := Lib.hid hbu
    have HBL := Lib.hid hbl
    have hzr := hbl.size
    clear hbu hbl
    by_cases hlt : j < x.length
    · have hsp := HSP.out j hlt
      have HTK := Lib.hid (escS_take_len x hlt)
      have HTX : Hid (x.take (j + 1) = x.take j ++ [x.getD j 0]) := by
        unfold Hid
        rw [List.take_succ_eq_append_getElem hlt]
        simp [List.getD, List.getElem?_eq_getElem hlt]
      have hR : (escS (x.drop (j + 1))).length ≤ 100000 := by have := escS_len (x.drop (j + 1)); rw [List.length_drop] at this; omega
      generalize x.getD j 0 = c at *
      generalize escS (x.drop (j + 1)) = R at *
      have hpos : (escS (x.take j)).length + (escC c).length ≤ (escS x).length := by rw [hsp]; simp
      rcases esc_cases c with ⟨e1, n92, n34, n10⟩ | ⟨tl, e1, HRB⟩
      · rw [e1] at hsp hpos HTK
        have hix : ∀ g : (escS (x.take j)).length < (bs (escS x)).size, (bs (escS x))[(escS (x.take j)).length]'g = c := by
          rw [hsp]; exact fun g => at_split _ R c g
        have hN : (escS (x.take j)).length < (bs (escS x)).size := by rw [HSZ.out]; simp at hpos; omega
        have g92 : ((c.toNat : Int) == 92) = false := neU n92
        have HFB := Lib.hid (fun w => forbid_no c n10 n34 w)
        have HWB := Lib.hid (wbyte_any w.heap.size w.heap.size (Lib.byteCells (x.take j)) (c.toNat : Int) wr HBU.out (by rw [Lib.byteCells_length, List.length_take]; omega) hzr)
        clear hsp hpos e1 HSP
        generalize bs (escS x) = D at *
        generalize (escS (x.take j)).length = N at *
        go_wp2_with fail
        refine (HFB.out _).mono ?_
        rintro e _ ⟨rfl, rfl⟩
        go_wp2_with fail
        refine HWB.out.mono ?_
        rintro e w3 ⟨rfl, hb6, hbl6⟩
        have HB6 : Hid (Below w.heap.size w w3) := HBL.out.trans hbl6
        have HU6 : Hid (Lib.IsBuilder 72 5 w.heap.size w.heap.size (Lib.byteCells (x.take (j + 1))) w3) := by
          unfold Hid
          rw [HTX.out, show Lib.byteCells (x.take j ++ [c]) = Lib.byteCells (x.take j) ++ [.int .u8 (c.toNat : Int)] by simp [Lib.byteCells]]
          exact .inr hb6
        clear hb6 hbl6
        go_wp2_with fail
        go_roundw
        case rel => exact ⟨j + 1, hlt, by rw [HTK.out]; go_num, HU6.out, HB6.out⟩
        case measure => have := HSZ.out; simp [intOf]; omega
      · have hlen : (escC c ++ R).length ≤ 100004 := by have := escC_len c; rw [List.length_append]; omega
        have hix : ∀ g : (escS (x.take j)).length < (bs (escS x)).size, (bs (escS x))[(escS (x.take j)).length]'g = 92 := by
          rw [hsp, e1]; exact fun g => at_split _ (tl ++ R) 92 g
        have hcut : (bs (escS x)).extract (escS (x.take j)).length (bs (escS x)).size = bs (escC c ++ R) := by rw [hsp]; exact cut_split _ _
        have hk : 1 ≤ (escC c).length := by rw [e1]; simp
        have hN : (escS (x.take j)).length < (bs (escS x)).size := by rw [HSZ.out]; omega
        have HRC := Lib.hid (HRB R hR)
        have hs1 : (bs [c]).size = 1 := by rw [bs_size]; rfl
        have hkd : ((escC c).length : Int) ≤ 4 := by have := escC_len c; omega
        have hk0 : (((escC c).length : Int) == 0) = false := by simp only [beq_eq_false_iff_ne]; omega
        have HDD : Hid ((escS (x.take j)).length + (escC c).length ≤ (bs (escS x)).size) := by unfold Hid; rw [HSZ.out]; exact hpos
        clear hsp hpos e1 HSP HRB hlen hR
        generalize bs (escS x) = D at *
        generalize bs (escC c ++ R) = E at *
        generalize (escS (x.take j)).length = N at *
        generalize (escC c).length = K at *
        go_wp2_with fail
        refine (HRC.out _).mono ?_
        rintro e w2 ⟨rfl, hb2⟩
        have hzx : w.heap.size ≤ w2.heap.size := Nat.le_trans hzr hb2.size
        have hb5 : Lib.IsBuilder 72 5 w.heap.size w.heap.size (Lib.byteCells (x.take j)) w2 := by
          have key : ∀ p, Lib.BuilderAt 72 5 w.heap.size w.heap.size p (Lib.byteCells (x.take j)) wr → Lib.BuilderAt 72 5 w.heap.size w.heap.size p (Lib.byteCells (x.take j)) w2 := by
            rintro p ⟨h1, v, h2, h3, h4⟩
            exact ⟨h1, v, (hb2.block _ (Array.getElem?_eq_some_iff.1 h2).1).trans h2, own_below2 h3 hb2, h4⟩
          exact HBU.out.elim (fun h => .inl (key _ h)) (fun h => .inr (key _ h))
        have HW := Lib.hid (wstring_any w.heap.size w.heap.size _ (bs [c]) w2 hb5 (by rw [Lib.byteCells_length, List.length_take, hs1]; omega) hzx)
        have HBX : Hid (Below w.heap.size w w2) := HBL.out.trans (hb2.mono hzr)
        clear hb5 hb2
        go_wp2_with fail
        refine HW.out.mono ?_
        rintro e w3 ⟨rfl, hb6, hbl6, _⟩
        have HB6 : Hid (Below w.heap.size w w3) := HBX.out.trans hbl6
        have HU6 : Hid (Lib.IsBuilder 72 5 w.heap.size w.heap.size (Lib.byteCells (x.take (j + 1))) w3) := by
          unfold Hid
          rw [HTX.out, show Lib.byteCells (x.take j ++ [c]) = Lib.byteCells (x.take j) ++ Lib.strCells (bs [c]) by rw [Lib.strCells_eq, bs_data]; simp [Lib.byteCells]]
          exact .inr hb6
        clear hb6 hbl6
        go_wp2_with fail
        go_roundw
        case rel => exact ⟨j + 1, hlt, by rw [HTK.out]; go_num, HU6.out, HB6.out⟩
        case measure => have := HSZ.out; have := HDD.out; simp [intOf]; omega
    · obtain rfl : j = x.length := by omega
      rw [List.take_length] at HBU
      have HE : Hid (escS (x.take x.length) = escS x) := by rw [List.take_length]; rfl
      have HS := Lib.hid (Tryz.Builder_String_any_k w.heap.size w.heap.size x wr (Lib.IsBuilderF.of HBU.out) hzr)
      rw [HE.out, ← HSZ.out]
      go_wp2_with fail
      refine HS.out.mono ?_
      rintro e w3 ⟨rfl, _, hbl6, _⟩
      have HB6 : Hid (Below w.heap.size w w3) := HBL.out.trans hbl6
      clear hbl6
      go_wp2_with fail
      exact bodyPost_ret (v := .tuple #[.string (bs x), .int .i64 0, .int .i64 0]) (by simp [results, Tryz.f29, go_sem]; rfl) rfl ⟨rfl, HB6.out⟩
end Go.Proofs.YtkkggpahanddnaaGreatDoor
