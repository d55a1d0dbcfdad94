/- upper: plain law and walk. -/
import Derived.Test.YtkodnagneblgaaaC3
namespace Go.Proofs.Ytkodnagneblgaaa
open Go.RowKit
attribute [local go_sem] Ext.cell Ext.frozen
attribute [local go_sem ↓] Go.wp_at_zero Go.wp_at_succ
/-- a byte in upper case -/
def upC (c : UInt8) : UInt8 := if 97 ≤ c ∧ c ≤ 122 then c - 32 else c
def upG (s : List UInt8) : List UInt8 := s.flatMap fun c => if upC c = 32 then [upC c, 44, 32] else [upC c]
def upV (s : List UInt8) : List UInt8 := [45, 32] ++ upG s ++ [33]
theorem up_part (c : UInt8) : partC (upC c) = partC c := by
  have k : ∀ n : Fin 256, partC (upC (UInt8.ofNat n.val)) = partC (UInt8.ofNat n.val) := by decide +kernel
  have := k ⟨c.toNat, c.toNat_lt⟩
  simpa only [UInt8.ofNat_toNat] using this
theorem up_low (c : UInt8) : lowC (upC c) = lowC c := by
  have k : ∀ n : Fin 256, lowC (upC (UInt8.ofNat n.val)) = lowC (UInt8.ofNat n.val) := by decide +kernel
  have := k ⟨c.toNat, c.toNat_lt⟩
  simpa only [UInt8.ofNat_toNat] using this
theorem up_words : ∀ (s cur : List UInt8), wordsG (upG s ++ [33]) cur = wordsG s cur
  | [], cur => by
    show wordsG [33] cur = endW cur
    rw [wordsG, if_neg (by decide)]
    show endW cur ++ endW [] = endW cur
    simp [endW]
  | c :: r, cur => by
    have hg : upG (c :: r) = (if upC c = 32 then [upC c, 44, 32] else [upC c]) ++ upG r := rfl
    rw [hg]
    by_cases h32 : upC c = 32
    · have hp : partC c = false := by rw [← up_part, h32]; decide
      rw [if_pos h32, h32]
      show wordsG (32 :: 44 :: 32 :: (upG r ++ [33])) cur = _
      rw [wordsG, if_neg (by decide), wordsG, if_neg (by decide), wordsG, if_neg (by decide), up_words r []]
      conv => rhs; rw [wordsG, if_neg (by rw [hp]; decide)]
      simp [endW]
    · rw [if_neg h32]
      show wordsG (upC c :: (upG r ++ [33])) cur = _
      cases hp : partC c with
      | true =>
        rw [wordsG, if_pos (by rw [up_part]; exact hp), up_low, up_words r _]
        conv => rhs; rw [wordsG, if_pos hp]
      | false =>
        rw [wordsG, if_neg (by rw [up_part, hp]; decide), up_words r _]
        conv => rhs; rw [wordsG, if_neg (by rw [hp]; decide)]
theorem upV_words (s : List UInt8) : wordsV (upV s) = wordsV s := by
  show wordsG (45 :: 32 :: (upG s ++ [33])) [] = wordsG s []
  rw [wordsG, if_neg (by decide), wordsG, if_neg (by decide), up_words s []]
  simp [endW]
def upB (s : ByteArray) : ByteArray := bs (upV s.data.toList)
theorem upB_words (s : ByteArray) : wordsB (upB s) = wordsB s := by
  unfold wordsB upB
  rw [bs_data, upV_words]
theorem upG_len : ∀ s : List UInt8, (upG s).length ≤ 3 * s.length
  | [] => Nat.le_refl _
  | c :: r => by
    have := upG_len r
    have hg : upG (c :: r) = (if upC c = 32 then [upC c, 44, 32] else [upC c]) ++ upG r := rfl
    rw [hg, List.length_append, List.length_cons]
    split <;> simp <;> omega
theorem upB_size (s : ByteArray) : (upB s).size ≤ 3 * s.size + 3 := by
  unfold upB upV
  rw [bs_size]
  have := upG_len s.data.toList
  have hsl : s.data.toList.length = s.size := ba_len s
  simp
  omega
theorem upG_take (s : List UInt8) (i : Nat) (hi : i < s.length) : upG (s.take (i + 1)) = upG (s.take i) ++ (if upC (s.getD i 0) = 32 then [upC (s.getD i 0), 44, 32] else [upC (s.getD i 0)]) := by
  have hg : s.getD i 0 = s[i] := by rw [List.getD_eq_getElem?_getD, List.getElem?_eq_getElem hi]; rfl
  rw [List.take_add_one, List.getElem?_eq_getElem hi, hg, Option.toList_some]
  unfold upG
  simp only [List.flatMap_append, List.flatMap_cons, List.flatMap_nil, List.append_nil]
set_option maxRecDepth 100000 in
set_option maxHeartbeats 4000000 in
theorem upper_any (s : ByteArray) (w : World) (hs : s.size ≤ 1000000) : Calls Try.prog 17 #[.string s] w fun e w' => e = .returned (.string (upB s)) ∧ Below w.heap.size w w' := by
  have hsl : s.data.toList.length = s.size := ba_len s
  go_enter Try.func17, Try.ntmps17
  go_wp2_with fail
  go_loopw [3, 4] (fun v u wr => ∃ (i : Nat) (sv : ByteArray), u = .int .i64 (i : Int) ∧ v = .string sv ∧ sv = bs ([45, 32] ++ upG (s.data.toList.take i)) ∧ i ≤ s.size ∧ Below w.heap.size w wr) (fun _ u _ => s.size - (intOf u).toNat)
  case atStart => exact ⟨0, _, rfl, rfl, rfl, Nat.zero_le _, Below.refl _ _⟩
  case round =>
    obtain ⟨i, sv, rfl, rfl, hsv, hi, hbl⟩ := hrel
    have HSV := Lib.hid hsv
    have HB := Lib.hid hbl
    have hzr := hbl.size
    clear hsv hbl
    have hvz : sv.size ≤ 3 * i + 2 := by
      rw [HSV.out, bs_size]
      have h1 := upG_len (s.data.toList.take i)
      have h2 : (s.data.toList.take i).length ≤ i := by rw [List.length_take]; omega
      simp only [List.length_append, List.length_cons, List.length_nil]
      omega
    by_cases hlt : i < s.size
    · have hch := ba_getD s i hlt
      have HUT := Lib.hid (upG_take s.data.toList i (by omega))
      obtain ⟨ch, hce⟩ : ∃ ch, s.data.toList.getD i 0 = ch := ⟨_, rfl⟩
      rw [hce] at hch HUT
      have hle : (i : Int) ≤ (s.size : Int) := by omega
      have hlz : (i : Int) < (s.size : Int) := by omega
      clear hce
      have hc256 := ch.toNat_lt
      obtain ⟨z, hz⟩ : ∃ z, ch.toNat = z := ⟨_, rfl⟩
      by_cases h1 : 97 ≤ z
      · have h1z : (97 : Int) ≤ (z : Int) := by omega
        have h1d : decide ((97 : Int) ≤ (z : Int)) = true := decide_eq_true h1z
        by_cases h2 : z ≤ 122
        · have h2z : (z : Int) ≤ (122 : Int) := by omega
          have h2d : decide ((z : Int) ≤ (122 : Int)) = true := decide_eq_true h2z
          have hu : upC ch = ch - 32 := by unfold upC; rw [if_pos ⟨by rw [UInt8.le_iff_toNat_le, hz]; exact h1, by rw [UInt8.le_iff_toNat_le, hz]; exact h2⟩]
          have hun : (upC ch).toNat = z - 32 := by rw [hu, UInt8.toNat_sub_of_le _ _ (by rw [UInt8.le_iff_toNat_le, hz]; exact Nat.le_trans (by decide) h1), hz]; rfl
          have HD : Hid ((z : Int) - 32 = ((upC ch).toNat : Int)) := by rw [Hid, hun]; omega
          have HN32 : Hid (¬ upC ch = 32) := fun e => by rw [e] at hun; have : (32 : UInt8).toNat = 32 := rfl; omega
          have hne : ¬ (z : Int) - 32 = 32 := by omega
          clear hu hun
          have kc := conv_new ((z : Int) - 32) (upC ch) (by rw [HD.out])
          have ka := fun W => run_string_add_sum (P := Try.prog) (w := W) sv (bs [upC ch]) (by rw [bs_size [upC ch]]; simp; omega)
          have HE : Hid (sv ++ bs [upC ch] = bs ([45, 32] ++ upG (s.data.toList.take (i + 1)))) := by
            rw [Hid, HUT.out, if_neg HN32.out, HSV.out, bs_append, List.append_assoc]
          generalize bs [upC ch] = sl at *
          go_wp2_with fail
          go_roundw
          case rel => exact ⟨i + 1, _, by go_num, rfl, HE.out, by omega, HB.out.alloc hzr _⟩
          case measure => simp [intOf]; omega
        · have h2z : ¬ (z : Int) ≤ (122 : Int) := by omega
          have h2d : decide ((z : Int) ≤ (122 : Int)) = false := decide_eq_false h2z
          have hu : upC ch = ch := by unfold upC; rw [if_neg (fun h => h2 (by have := h.2; rw [UInt8.le_iff_toNat_le, hz] at this; exact this))]
          have HD : Hid ((z : Int) = ((upC ch).toNat : Int)) := by rw [Hid, hu, hz]
          have HN32 : Hid (¬ upC ch = 32) := fun e => by rw [hu] at e; rw [e] at hz; have : (32 : UInt8).toNat = 32 := rfl; omega
          have hne : ¬ (z : Int) = 32 := by omega
          clear hu
          have kc := conv_new (z : Int) (upC ch) (by rw [HD.out])
          have ka := fun W => run_string_add_sum (P := Try.prog) (w := W) sv (bs [upC ch]) (by rw [bs_size [upC ch]]; simp; omega)
          have HE : Hid (sv ++ bs [upC ch] = bs ([45, 32] ++ upG (s.data.toList.take (i + 1)))) := by
            rw [Hid, HUT.out, if_neg HN32.out, HSV.out, bs_append, List.append_assoc]
          generalize bs [upC ch] = sl at *
          go_wp2_with fail
          go_roundw
          case rel => exact ⟨i + 1, _, by go_num, rfl, HE.out, by omega, HB.out.alloc hzr _⟩
          case measure => simp [intOf]; omega
      · have h1z : ¬ (97 : Int) ≤ (z : Int) := by omega
        have h1d : decide ((97 : Int) ≤ (z : Int)) = false := decide_eq_false h1z
        have hu : upC ch = ch := by unfold upC; rw [if_neg (fun h => h1 (by have := h.1; rw [UInt8.le_iff_toNat_le, hz] at this; exact this))]
        have HD : Hid ((z : Int) = ((upC ch).toNat : Int)) := by rw [Hid, hu, hz]
        by_cases h3 : z = 32
        · have HN32 : Hid (upC ch = 32) := by rw [Hid, hu]; exact UInt8.toNat_inj.1 (hz.trans h3)
          have hne : (z : Int) = 32 := by omega
          have hnd : decide ((z : Int) = 32) = true := decide_eq_true hne
          clear hu
          have kc := conv_new (z : Int) (upC ch) (by rw [HD.out])
          have ka := fun W => run_string_add_sum (P := Try.prog) (w := W) sv (bs [upC ch]) (by rw [bs_size [upC ch]]; simp; omega)
          have HE : Hid (sv ++ bs [upC ch] ++ (⟨#[44, 32]⟩ : ByteArray) = bs ([45, 32] ++ upG (s.data.toList.take (i + 1)))) := by
            rw [Hid, show (⟨#[44, 32]⟩ : ByteArray) = bs [44, 32] from rfl, HUT.out, if_pos HN32.out, HSV.out, bs_append, bs_append, List.append_assoc, List.append_assoc]
            rfl
          have hsz2 : (sv ++ bs [upC ch]).size ≤ 3 * i + 3 := by rw [ByteArray.size_append, bs_size]; simp; omega
          generalize bs [upC ch] = sl at *
          have kb := fun W => run_string_add_sum (P := Try.prog) (w := W) (sv ++ sl) (⟨#[44, 32]⟩ : ByteArray) (by have e2 : (⟨#[44, 32]⟩ : ByteArray).size = 2 := rfl; rw [e2]; omega)
          have hnb : ((z : Int) == 32) = true := by simpa using hne
          clear hne h3
          go_wp2_with fail
          go_roundw
          case rel => exact ⟨i + 1, _, by go_num, rfl, HE.out, by omega, HB.out.alloc hzr _⟩
          case measure => simp [intOf]; omega
        · have HN32 : Hid (¬ upC ch = 32) := fun e => by rw [hu] at e; rw [e] at hz; have : (32 : UInt8).toNat = 32 := rfl; omega
          have hne : ¬ (z : Int) = 32 := by omega
          clear hu
          have kc := conv_new (z : Int) (upC ch) (by rw [HD.out])
          have ka := fun W => run_string_add_sum (P := Try.prog) (w := W) sv (bs [upC ch]) (by rw [bs_size [upC ch]]; simp; omega)
          have HE : Hid (sv ++ bs [upC ch] = bs ([45, 32] ++ upG (s.data.toList.take (i + 1)))) := by
            rw [Hid, HUT.out, if_neg HN32.out, HSV.out, bs_append, List.append_assoc]
          generalize bs [upC ch] = sl at *
          go_wp2_with fail
          go_roundw
          case rel => exact ⟨i + 1, _, by go_num, rfl, HE.out, by omega, HB.out.alloc hzr _⟩
          case measure => simp [intOf]; omega
    · obtain rfl : i = s.size := by omega
      have HV : Hid (sv ++ bs [33] = upB s) := by
        rw [Hid, HSV.out, bs_append, List.take_of_length_le (by omega)]
        rfl
      have ka := fun W => run_string_add_sum (P := Try.prog) (w := W) sv (bs [33]) (by rw [bs_size [33]]; simp; omega)
      go_wp2_with fail
      go_ret
      exact ⟨by rw [← HV.out]; rfl, HB.out⟩
end Go.Proofs.Ytkodnagneblgaaa
