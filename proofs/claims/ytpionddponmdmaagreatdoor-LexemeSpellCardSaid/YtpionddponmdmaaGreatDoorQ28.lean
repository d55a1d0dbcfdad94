/- Walks: lexeme's skip; the reference's part, word, mark, skip. -/
import Derived.Test.YtpionddponmdmaaGreatDoorQ27
namespace Go.Proofs.YtpionddponmdmaaGreatDoor
open Go.RowKit
attribute [local go_sem] Ext.cell Ext.frozen
attribute [local go_sem ↓] Go.wp_at_zero Go.wp_at_succ
theorem skip_cons (l : List UInt8) {k : Nat} (h : k < l.length) (b : Bool) : skipS b (l.drop k) = skipS b (l.getD k 0 :: l.drop (k + 1)) := by rw [← drop_at h]
theorem skip_blank {c : UInt8} (r : List UInt8) (h : c ∈ blanksL) : skipS false (c :: r) = 1 + skipS false r := by rw [skipS, if_pos h]
theorem skip_hash (r : List UInt8) : skipS false (35 :: r) = skipS true (35 :: r) := by
  have e1 : skipS false (35 :: r) = 1 + skipS true r := by rw [skipS, if_neg (by decide), if_pos rfl]
  have e2 : skipS true (35 :: r) = 1 + skipS true r := by rw [skipS, if_neg (by decide)]
  rw [e1, e2]
theorem skip_stop {c : UInt8} (r : List UInt8) (h : c ∉ blanksL) (h2 : c ≠ 35) : skipS false (c :: r) = 0 := by rw [skipS, if_neg h, if_neg h2]
theorem skip_le : ∀ (b : Bool) (l : List UInt8), skipS b l ≤ l.length
  | true, [] => Nat.le_refl _
  | false, [] => Nat.le_refl _
  | true, c :: r => by
    have h1 := skip_le true r
    have h2 := skip_le false r
    rw [skipS, List.length_cons]
    split <;> omega
  | false, c :: r => by
    have h1 := skip_le true r
    have h2 := skip_le false r
    rw [skipS, List.length_cons]
    split
    · omega
    · split <;> omega
theorem cut_line (l : List UInt8) (w : World) (hl : l.length ≤ 100000) (hM : MaxLen w) : Calls Tryz.prog 68 #[.string (bs l), .string ⟨#[10]⟩] w fun e w' => ∃ (D E : ByteArray) (b : Bool), e = .returned (.tuple #[.string D, .string E, .bool b]) ∧ D.size = lineL l ∧ Below w.heap.size w w' := by
  obtain ⟨m, hm⟩ := hM
  refine (Tryz.strings_Cut (bs l) ⟨#[10]⟩ m w (by rw [bs_size]; omega) hm).mono ?_
  rintro e _ ⟨rfl, k, rfl⟩
  refine ⟨_, _, _, rfl, ?_, below_drewN _ _⟩
  rw [bs_data, show (⟨#[10]⟩ : ByteArray).data.toList = [10] from rfl, cut_nl]
  show ((l.takeWhile (· != 10)).toArray).size = _
  rw [List.size_toArray]
  rfl
theorem lineL_le (l : List UInt8) : lineL l ≤ l.length := (List.takeWhile_prefix _).length_le
set_option maxRecDepth 20000 in
set_option maxHeartbeats 4000000 in
theorem skip_any (l : List UInt8) (k0 : Nat) (hk : k0 ≤ l.length) (hl : l.length ≤ 100000) (w : World) (hM : MaxLen w) :
    Calls Tryz.prog 44 #[.string (bs l), .int .i64 (k0 : Int)] w fun e w' => e = .returned (.int .i64 ((k0 + skipS false (l.drop k0) : Nat) : Int)) ∧ Below w.heap.size w w' := by
  have hsz : (bs l).size = l.length := bs_size l
  have HSZ := Lib.hid hsz
  have hle : (bs l).size ≤ 100000 := by omega
  have HAT : Hid (∀ (i : Nat) (g : i < (bs l).size), (bs l)[i]'g = l.getD i 0) := fun i g => ba_at l g
  have HEX := Lib.hid (ext_drop l)
  have HM := Lib.hid (fun w' (h : Below w.heap.size w w') => hM.below h)
  have HIN : Hid (∀ c w, Calls Tryz.prog 16 #[.int .u8 (c.toNat : Int), .string ⟨#[32, 9, 10, 13]⟩] w fun e w' => e = .returned (.bool (decide (c ∈ blanksL))) ∧ w = w') := fun c w => in_any c blanksL w
  generalize hS : bs l = S at *
  obtain ⟨X, hX⟩ : ∃ X, k0 + skipS false (l.drop k0) = X := ⟨_, rfl⟩
  rw [hX]
  have HX := Lib.hid hX
  clear hS hsz hX hM
  go_enter Tryz.func44, Tryz.ntmps44
  go_wp2_with fail
  go_loopw [1] (fun i wr => ∃ k : Nat, k ≤ l.length ∧ i = .int .i64 (k : Int) ∧ k + skipS false (l.drop k) = X ∧ Below w.heap.size w wr) (fun i _ => l.length - (intOf i).toNat)
  case atStart => exact ⟨k0, hk, rfl, HX.out, Below.refl _ _⟩
  case round =>
    obtain ⟨k, hk, rfl, hsk, hbl⟩ := hrel
    have HSK := Lib.hid hsk
    have HBL := Lib.hid hbl
    have hzr := hbl.size
    clear hsk hbl
    by_cases hlt : k < l.length
    · have hks : k < S.size := by rw [HSZ.out]; exact hlt
      have hix : ∀ g : k < S.size, S[k]'g = l.getD k 0 := fun g => HAT.out k g
      have hcut : S.extract k S.size = bs (l.drop k) := HEX.out k
      have HCT := Lib.hid (fun w h => cut_line (l.drop k) w (by rw [List.length_drop]; omega) h)
      have hcs := skip_cons l hlt false
      have hct := skip_cons l hlt true
      have hln := skip_line (l.drop k)
      have hll := lineL_le (l.drop k)
      have hl1 : l.getD k 0 ≠ 10 → 1 ≤ lineL (l.drop k) := fun h => by
        rw [drop_at hlt]
        unfold lineL
        rw [List.takeWhile_cons, if_pos (by simpa using h)]
        simp
      rw [List.drop_drop] at hln
      rw [List.length_drop] at hll
      have HI := Lib.hid (HIN.out (l.getD k 0))
      have HLT := Lib.hid hlt
      generalize l.getD k 0 = c at *
      by_cases hb : c ∈ blanksL
      · have HNX : Hid (k + 1 + skipS false (l.drop (k + 1)) = X) := by unfold Hid; rw [← HSK.out, hcs, skip_blank _ hb]; omega
        rw [decide_eq_true hb] at HI
        clear hcs hct hln hll hl1 hb
        go_wp2_with fail
        refine (HI.out _).mono ?_
        rintro e _ ⟨rfl, rfl⟩
        go_wp2_with fail
        go_roundw
        case rel => exact ⟨k + 1, HLT.out, by go_num, HNX.out, HBL.out⟩
        case measure => have := HLT.out; simp [intOf]; omega
      · rw [decide_eq_false hb] at HI
        by_cases h35 : c = 35
        · subst h35
          have HNX : Hid (k + lineL (l.drop k) + skipS false (l.drop (k + lineL (l.drop k))) = X) := by
            unfold Hid
            rw [← HSK.out, hcs, skip_hash, ← hct, hln]
            omega
          have HL1 := Lib.hid (hl1 (by decide))
          have HLL := Lib.hid hll
          have hjb : lineL (l.drop k) ≤ 100000 := by omega
          clear hcs hct hln hll hl1 hb
          generalize lineL (l.drop k) = j at *
          generalize bs (l.drop k) = E at *
          go_wp2_with fail
          refine (HI.out _).mono ?_
          rintro e _ ⟨rfl, rfl⟩
          go_wp2_with fail
          refine (HCT.out _ (HM.out _ HBL.out)).mono ?_
          rintro e w2 ⟨D, E2, b, rfl, hD, hb2⟩
          have HB2 : Hid (Below w.heap.size w w2) := HBL.out.trans (hb2.mono hzr)
          have HDj := Lib.hid hD
          have hDs : D.size ≤ 100000 := by omega
          clear hb2 hD
          go_wp2_with fail
          go_roundw
          case rel => exact ⟨k + j, by have := HLL.out; have := HLT.out; omega, by rw [HDj.out]; go_num, HNX.out, HB2.out⟩
          case measure => have := HL1.out; have := HDj.out; have := HLT.out; simp [intOf]; omega
        · have g35 : ((c.toNat : Int) == 35) = false := neU h35
          have HE : Hid (X = k) := by unfold Hid; rw [← HSK.out, hcs, skip_stop _ hb h35]; rfl
          clear hcs hct hln hll hl1 hb h35
          go_wp2_with fail
          refine (HI.out _).mono ?_
          rintro e _ ⟨rfl, rfl⟩
          go_wp2_with fail
          go_ret
          exact ⟨by rw [HE.out]; rfl, HBL.out⟩
    · obtain rfl : k = l.length := by omega
      have hks : ¬ l.length < S.size := by rw [HSZ.out]; omega
      have HE : Hid (X = l.length) := by unfold Hid; rw [← HSK.out, List.drop_length]; rfl
      go_wp2_with fail
      go_ret
      exact ⟨by rw [HE.out]; rfl, HBL.out⟩
set_option maxRecDepth 20000 in
theorem inner_iff (c : UInt8) : decide (c ∈ innerL) = (decide (97 ≤ c.toNat ∧ c.toNat ≤ 122) || decide (65 ≤ c.toNat ∧ c.toNat ≤ 90) || decide (48 ≤ c.toNat ∧ c.toNat ≤ 57) || decide (c.toNat = 45) || decide (c.toNat = 95)) := by
  have k : ∀ f : Fin 256, decide ((UInt8.ofNat f.1) ∈ innerL) = (decide (97 ≤ (UInt8.ofNat f.1).toNat ∧ (UInt8.ofNat f.1).toNat ≤ 122) || decide (65 ≤ (UInt8.ofNat f.1).toNat ∧ (UInt8.ofNat f.1).toNat ≤ 90) || decide (48 ≤ (UInt8.ofNat f.1).toNat ∧ (UInt8.ofNat f.1).toNat ≤ 57) || decide ((UInt8.ofNat f.1).toNat = 45) || decide ((UInt8.ofNat f.1).toNat = 95)) := by decide +kernel
  have e : UInt8.ofNat c.toNat = c := by simp
  have := k ⟨c.toNat, c.toNat_lt⟩
  simpa only [e] using this
set_option maxRecDepth 20000 in
set_option maxHeartbeats 4000000 in
theorem rpart_any (c : UInt8) (w : World) : Calls Tryz.prog 39 #[.int .u8 (c.toNat : Int)] w fun e w' => e = .returned (.bool (decide (c ∈ innerL))) ∧ w = w' := by
  have hz : c.toNat < 256 := c.toNat_lt
  have HI := Lib.hid (inner_iff c)
  rcases (by omega : (0 ≤ c.toNat ∧ c.toNat ≤ 44) ∨ (45 ≤ c.toNat ∧ c.toNat ≤ 45) ∨ (46 ≤ c.toNat ∧ c.toNat ≤ 47) ∨ (48 ≤ c.toNat ∧ c.toNat ≤ 57) ∨ (58 ≤ c.toNat ∧ c.toNat ≤ 64) ∨ (65 ≤ c.toNat ∧ c.toNat ≤ 90) ∨ (91 ≤ c.toNat ∧ c.toNat ≤ 94) ∨ (95 ≤ c.toNat ∧ c.toNat ≤ 95) ∨ (96 ≤ c.toNat ∧ c.toNat ≤ 96) ∨ (97 ≤ c.toNat ∧ c.toNat ≤ 122) ∨ (123 ≤ c.toNat ∧ c.toNat ≤ 255)) with ⟨h, h'⟩ | ⟨h, h'⟩ | ⟨h, h'⟩ | ⟨h, h'⟩ | ⟨h, h'⟩ | ⟨h, h'⟩ | ⟨h, h'⟩ | ⟨h, h'⟩ | ⟨h, h'⟩ | ⟨h, h'⟩ | ⟨h, h'⟩
  · have g0 : ¬ (97 : Int) ≤ (c.toNat : Int) := by omega
    have g1 : (c.toNat : Int) ≤ 122 := by omega
    have g2 : ¬ (65 : Int) ≤ (c.toNat : Int) := by omega
    have g3 : (c.toNat : Int) ≤ 90 := by omega
    have g4 : ¬ (48 : Int) ≤ (c.toNat : Int) := by omega
    have g5 : (c.toNat : Int) ≤ 57 := by omega
    have e45 : ((c.toNat : Int) == 45) = false := by simp only [beq_eq_false_iff_ne]; omega
    have e95 : ((c.toNat : Int) == 95) = false := by simp only [beq_eq_false_iff_ne]; omega
    have HV : Hid (decide (c ∈ innerL) = false) := by
      unfold Hid
      rw [HI.out, decide_eq_false (p := 97 ≤ c.toNat ∧ c.toNat ≤ 122) (by omega), decide_eq_false (p := 65 ≤ c.toNat ∧ c.toNat ≤ 90) (by omega), decide_eq_false (p := 48 ≤ c.toNat ∧ c.toNat ≤ 57) (by omega), decide_eq_false (p := c.toNat = 45) (by omega), decide_eq_false (p := c.toNat = 95) (by omega)]
      rfl
    clear h h'
    go_enter Tryz.func39, Tryz.ntmps39
    go_wp2_with fail
    go_ret
    exact ⟨by rw [HV.out]; rfl, rfl⟩
  · have g0 : ¬ (97 : Int) ≤ (c.toNat : Int) := by omega
    have g1 : (c.toNat : Int) ≤ 122 := by omega
    have g2 : ¬ (65 : Int) ≤ (c.toNat : Int) := by omega
    have g3 : (c.toNat : Int) ≤ 90 := by omega
    have g4 : ¬ (48 : Int) ≤ (c.toNat : Int) := by omega
    have g5 : (c.toNat : Int) ≤ 57 := by omega
    have e45 : ((c.toNat : Int) == 45) = true := by simp only [beq_iff_eq]; omega
    have e95 : ((c.toNat : Int) == 95) = false := by simp only [beq_eq_false_iff_ne]; omega
    have HV : Hid (decide (c ∈ innerL) = true) := by
      unfold Hid
      rw [HI.out, decide_eq_false (p := 97 ≤ c.toNat ∧ c.toNat ≤ 122) (by omega), decide_eq_false (p := 65 ≤ c.toNat ∧ c.toNat ≤ 90) (by omega), decide_eq_false (p := 48 ≤ c.toNat ∧ c.toNat ≤ 57) (by omega), decide_eq_true (p := c.toNat = 45) (by omega), decide_eq_false (p := c.toNat = 95) (by omega)]
      rfl
    clear h h'
    go_enter Tryz.func39, Tryz.ntmps39
    go_wp2_with fail
    go_ret
    exact ⟨by rw [HV.out]; rfl, rfl⟩
  · have g0 : ¬ (97 : Int) ≤ (c.toNat : Int) := by omega
    have g1 : (c.toNat : Int) ≤ 122 := by omega
    have g2 : ¬ (65 : Int) ≤ (c.toNat : Int) := by omega
    have g3 : (c.toNat : Int) ≤ 90 := by omega
    have g4 : ¬ (48 : Int) ≤ (c.toNat : Int) := by omega
    have g5 : (c.toNat : Int) ≤ 57 := by omega
    have e45 : ((c.toNat : Int) == 45) = false := by simp only [beq_eq_false_iff_ne]; omega
    have e95 : ((c.toNat : Int) == 95) = false := by simp only [beq_eq_false_iff_ne]; omega
    have HV : Hid (decide (c ∈ innerL) = false) := by
      unfold Hid
      rw [HI.out, decide_eq_false (p := 97 ≤ c.toNat ∧ c.toNat ≤ 122) (by omega), decide_eq_false (p := 65 ≤ c.toNat ∧ c.toNat ≤ 90) (by omega), decide_eq_false (p := 48 ≤ c.toNat ∧ c.toNat ≤ 57) (by omega), decide_eq_false (p := c.toNat = 45) (by omega), decide_eq_false (p := c.toNat = 95) (by omega)]
      rfl
    clear h h'
    go_enter Tryz.func39, Tryz.ntmps39
    go_wp2_with fail
    go_ret
    exact ⟨by rw [HV.out]; rfl, rfl⟩
  · have g0 : ¬ (97 : Int) ≤ (c.toNat : Int) := by omega
    have g1 : (c.toNat : Int) ≤ 122 := by omega
    have g2 : ¬ (65 : Int) ≤ (c.toNat : Int) := by omega
    have g3 : (c.toNat : Int) ≤ 90 := by omega
    have g4 : (48 : Int) ≤ (c.toNat : Int) := by omega
    have g5 : (c.toNat : Int) ≤ 57 := by omega
    have e45 : ((c.toNat : Int) == 45) = false := by simp only [beq_eq_false_iff_ne]; omega
    have e95 : ((c.toNat : Int) == 95) = false := by simp only [beq_eq_false_iff_ne]; omega
    have HV : Hid (decide (c ∈ innerL) = true) := by
      unfold Hid
      rw [HI.out, decide_eq_false (p := 97 ≤ c.toNat ∧ c.toNat ≤ 122) (by omega), decide_eq_false (p := 65 ≤ c.toNat ∧ c.toNat ≤ 90) (by omega), decide_eq_true (p := 48 ≤ c.toNat ∧ c.toNat ≤ 57) (by omega), decide_eq_false (p := c.toNat = 45) (by omega), decide_eq_false (p := c.toNat = 95) (by omega)]
      rfl
    clear h h'
    go_enter Tryz.func39, Tryz.ntmps39
    go_wp2_with fail
    go_ret
    exact ⟨by rw [HV.out]; rfl, rfl⟩
  · have g0 : ¬ (97 : Int) ≤ (c.toNat : Int) := by omega
    have g1 : (c.toNat : Int) ≤ 122 := by omega
    have g2 : ¬ (65 : Int) ≤ (c.toNat : Int) := by omega
    have g3 : (c.toNat : Int) ≤ 90 := by omega
    have g4 : (48 : Int) ≤ (c.toNat : Int) := by omega
    have g5 : ¬ (c.toNat : Int) ≤ 57 := by omega
    have e45 : ((c.toNat : Int) == 45) = false := by simp only [beq_eq_false_iff_ne]; omega
    have e95 : ((c.toNat : Int) == 95) = false := by simp only [beq_eq_false_iff_ne]; omega
    have HV : Hid (decide (c ∈ innerL) = false) := by
      unfold Hid
      rw [HI.out, decide_eq_false (p := 97 ≤ c.toNat ∧ c.toNat ≤ 122) (by omega), decide_eq_false (p := 65 ≤ c.toNat ∧ c.toNat ≤ 90) (by omega), decide_eq_false (p := 48 ≤ c.toNat ∧ c.toNat ≤ 57) (by omega), decide_eq_false (p := c.toNat = 45) (by omega), decide_eq_false (p := c.toNat = 95) (by omega)]
      rfl
    clear h h'
    go_enter Tryz.func39, Tryz.ntmps39
    go_wp2_with fail
    go_ret
    exact ⟨by rw [HV.out]; rfl, rfl⟩
  · have g0 : ¬ (97 : Int) ≤ (c.toNat : Int) := by omega
    have g1 : (c.toNat : Int) ≤ 122 := by omega
    have g2 : (65 : Int) ≤ (c.toNat : Int) := by omega
    have g3 : (c.toNat : Int) ≤ 90 := by omega
    have g4 : (48 : Int) ≤ (c.toNat : Int) := by omega
    have g5 : ¬ (c.toNat : Int) ≤ 57 := by omega
    have e45 : ((c.toNat : Int) == 45) = false := by simp only [beq_eq_false_iff_ne]; omega
    have e95 : ((c.toNat : Int) == 95) = false := by simp only [beq_eq_false_iff_ne]; omega
    have HV : Hid (decide (c ∈ innerL) = true) := by
      unfold Hid
      rw [HI.out, decide_eq_false (p := 97 ≤ c.toNat ∧ c.toNat ≤ 122) (by omega), decide_eq_true (p := 65 ≤ c.toNat ∧ c.toNat ≤ 90) (by omega), decide_eq_false (p := 48 ≤ c.toNat ∧ c.toNat ≤ 57) (by omega), decide_eq_false (p := c.toNat = 45) (by omega), decide_eq_false (p := c.toNat = 95) (by omega)]
      rfl
    clear h h'
    go_enter Tryz.func39, Tryz.ntmps39
    go_wp2_with fail
    go_ret
    exact ⟨by rw [HV.out]; rfl, rfl⟩
  · have g0 : ¬ (97 : Int) ≤ (c.toNat : Int) := by omega
    have g1 : (c.toNat : Int) ≤ 122 := by omega
    have g2 : (65 : Int) ≤ (c.toNat : Int) := by omega
    have g3 : ¬ (c.toNat : Int) ≤ 90 := by omega
    have g4 : (48 : Int) ≤ (c.toNat : Int) := by omega
    have g5 : ¬ (c.toNat : Int) ≤ 57 := by omega
    have e45 : ((c.toNat : Int) == 45) = false := by simp only [beq_eq_false_iff_ne]; omega
    have e95 : ((c.toNat : Int) == 95) = false := by simp only [beq_eq_false_iff_ne]; omega
    have HV : Hid (decide (c ∈ innerL) = false) := by
      unfold Hid
      rw [HI.out, decide_eq_false (p := 97 ≤ c.toNat ∧ c.toNat ≤ 122) (by omega), decide_eq_false (p := 65 ≤ c.toNat ∧ c.toNat ≤ 90) (by omega), decide_eq_false (p := 48 ≤ c.toNat ∧ c.toNat ≤ 57) (by omega), decide_eq_false (p := c.toNat = 45) (by omega), decide_eq_false (p := c.toNat = 95) (by omega)]
      rfl
    clear h h'
    go_enter Tryz.func39, Tryz.ntmps39
    go_wp2_with fail
    go_ret
    exact ⟨by rw [HV.out]; rfl, rfl⟩
  · have g0 : ¬ (97 : Int) ≤ (c.toNat : Int) := by omega
    have g1 : (c.toNat : Int) ≤ 122 := by omega
    have g2 : (65 : Int) ≤ (c.toNat : Int) := by omega
    have g3 : ¬ (c.toNat : Int) ≤ 90 := by omega
    have g4 : (48 : Int) ≤ (c.toNat : Int) := by omega
    have g5 : ¬ (c.toNat : Int) ≤ 57 := by omega
    have e45 : ((c.toNat : Int) == 45) = false := by simp only [beq_eq_false_iff_ne]; omega
    have e95 : ((c.toNat : Int) == 95) = true := by simp only [beq_iff_eq]; omega
    have HV : Hid (decide (c ∈ innerL) = true) := by
      unfold Hid
      rw [HI.out, decide_eq_false (p := 97 ≤ c.toNat ∧ c.toNat ≤ 122) (by omega), decide_eq_false (p := 65 ≤ c.toNat ∧ c.toNat ≤ 90) (by omega), decide_eq_false (p := 48 ≤ c.toNat ∧ c.toNat ≤ 57) (by omega), decide_eq_false (p := c.toNat = 45) (by omega), decide_eq_true (p := c.toNat = 95) (by omega)]
      rfl
    clear h h'
    go_enter Tryz.func39, Tryz.ntmps39
    go_wp2_with fail
    go_ret
    exact ⟨by rw [HV.out]; rfl, rfl⟩
  · have g0 : ¬ (97 : Int) ≤ (c.toNat : Int) := by omega
    have g1 : (c.toNat : Int) ≤ 122 := by omega
    have g2 : (65 : Int) ≤ (c.toNat : Int) := by omega
    have g3 : ¬ (c.toNat : Int) ≤ 90 := by omega
    have g4 : (48 : Int) ≤ (c.toNat : Int) := by omega
    have g5 : ¬ (c.toNat : Int) ≤ 57 := by omega
    have e45 : ((c.toNat : Int) == 45) = false := by simp only [beq_eq_false_iff_ne]; omega
    have e95 : ((c.toNat : Int) == 95) = false := by simp only [beq_eq_false_iff_ne]; omega
    have HV : Hid (decide (c ∈ innerL) = false) := by
      unfold Hid
      rw [HI.out, decide_eq_false (p := 97 ≤ c.toNat ∧ c.toNat ≤ 122) (by omega), decide_eq_false (p := 65 ≤ c.toNat ∧ c.toNat ≤ 90) (by omega), decide_eq_false (p := 48 ≤ c.toNat ∧ c.toNat ≤ 57) (by omega), decide_eq_false (p := c.toNat = 45) (by omega), decide_eq_false (p := c.toNat = 95) (by omega)]
      rfl
    clear h h'
    go_enter Tryz.func39, Tryz.ntmps39
    go_wp2_with fail
    go_ret
    exact ⟨by rw [HV.out]; rfl, rfl⟩
  · have g0 : (97 : Int) ≤ (c.toNat : Int) := by omega
    have g1 : (c.toNat : Int) ≤ 122 := by omega
    have g2 : (65 : Int) ≤ (c.toNat : Int) := by omega
    have g3 : ¬ (c.toNat : Int) ≤ 90 := by omega
    have g4 : (48 : Int) ≤ (c.toNat : Int) := by omega
    have g5 : ¬ (c.toNat : Int) ≤ 57 := by omega
    have e45 : ((c.toNat : Int) == 45) = false := by simp only [beq_eq_false_iff_ne]; omega
    have e95 : ((c.toNat : Int) == 95) = false := by simp only [beq_eq_false_iff_ne]; omega
    have HV : Hid (decide (c ∈ innerL) = true) := by
      unfold Hid
      rw [HI.out, decide_eq_true (p := 97 ≤ c.toNat ∧ c.toNat ≤ 122) (by omega), decide_eq_false (p := 65 ≤ c.toNat ∧ c.toNat ≤ 90) (by omega), decide_eq_false (p := 48 ≤ c.toNat ∧ c.toNat ≤ 57) (by omega), decide_eq_false (p := c.toNat = 45) (by omega), decide_eq_false (p := c.toNat = 95) (by omega)]
      rfl
    clear h h'
    go_enter Tryz.func39, Tryz.ntmps39
    go_wp2_with fail
    go_ret
    exact ⟨by rw [HV.out]; rfl, rfl⟩
  · have g0 : (97 : Int) ≤ (c.toNat : Int) := by omega
    have g1 : ¬ (c.toNat : Int) ≤ 122 := by omega
    have g2 : (65 : Int) ≤ (c.toNat : Int) := by omega
    have g3 : ¬ (c.toNat : Int) ≤ 90 := by omega
    have g4 : (48 : Int) ≤ (c.toNat : Int) := by omega
    have g5 : ¬ (c.toNat : Int) ≤ 57 := by omega
    have e45 : ((c.toNat : Int) == 45) = false := by simp only [beq_eq_false_iff_ne]; omega
    have e95 : ((c.toNat : Int) == 95) = false := by simp only [beq_eq_false_iff_ne]; omega
    have HV : Hid (decide (c ∈ innerL) = false) := by
      unfold Hid
      rw [HI.out, decide_eq_false (p := 97 ≤ c.toNat ∧ c.toNat ≤ 122) (by omega), decide_eq_false (p := 65 ≤ c.toNat ∧ c.toNat ≤ 90) (by omega), decide_eq_false (p := 48 ≤ c.toNat ∧ c.toNat ≤ 57) (by omega), decide_eq_false (p := c.toNat = 45) (by omega), decide_eq_false (p := c.toNat = 95) (by omega)]
      rfl
    clear h h'
    go_enter Tryz.func39, Tryz.ntmps39
    go_wp2_with fail
    go_ret
    exact ⟨by rw [HV.out]; rfl, rfl⟩
theorem rmark_any (c : UInt8) (w : World) : Calls Tryz.prog 19 #[.int .u8 (c.toNat : Int)] w fun e w' => e = .returned (.bool (decide (c ∈ marksL))) ∧ w = w' := by
  by_cases h123 : c = 123
  · subst h123
    go_enter Tryz.func19, Tryz.ntmps19
    go_wp2_with fail
    go_ret
    exact ⟨rfl, rfl⟩
  by_cases h125 : c = 125
  · subst h125
    go_enter Tryz.func19, Tryz.ntmps19
    go_wp2_with fail
    go_ret
    exact ⟨rfl, rfl⟩
  by_cases h59 : c = 59
  · subst h59
    go_enter Tryz.func19, Tryz.ntmps19
    go_wp2_with fail
    go_ret
    exact ⟨rfl, rfl⟩
  have HN : Hid (decide (c ∈ marksL) = false) := decide_eq_false (fun h => by
    unfold marksL at h
    rcases List.mem_cons.1 h with h | h
    · exact h123 h
    · rcases List.mem_cons.1 h with h | h
      · exact h125 h
      · exact h59 (List.mem_singleton.1 h))
  have n123 : ((c.toNat : Int) == 123) = false := neU h123
  have n125 : ((c.toNat : Int) == 125) = false := neU h125
  have n59 : ((c.toNat : Int) == 59) = false := neU h59
  go_enter Tryz.func19, Tryz.ntmps19
  go_wp2_with fail
  go_ret
  exact ⟨by rw [HN.out]; rfl, rfl⟩
theorem wordLen_in {l : List UInt8} {k : Nat} (h : k < l.length) (hc : l.getD k 0 ∈ innerL) : wordLen (l.drop k) = 1 + wordLen (l.drop (k + 1)) := by
  unfold wordLen
  rw [drop_at h, List.takeWhile_cons, if_pos (by simpa using hc), List.length_cons]
  omega
theorem wordLen_out {l : List UInt8} {k : Nat} (h : k < l.length) (hc : l.getD k 0 ∉ innerL) : wordLen (l.drop k) = 0 := by
  unfold wordLen
  rw [drop_at h, List.takeWhile_cons, if_neg (by simpa using hc)]
  rfl
set_option maxRecDepth 20000 in
set_option maxHeartbeats 4000000 in
theorem rword_any (l : List UInt8) (hl : l.length ≤ 100000) (w : World) : Calls Tryz.prog 23 #[.string (bs l)] w fun e w' => e = .returned (.int .i64 (wordLen l : Int)) ∧ w = w' := by
  have hsz : (bs l).size = l.length := bs_size l
  have HSZ := Lib.hid hsz
  have hle : (bs l).size ≤ 100000 := by omega
  have HAT : Hid (∀ (i : Nat) (g : i < (bs l).size), (bs l)[i]'g = l.getD i 0) := fun i g => ba_at l g
  generalize hS : bs l = S at *
  clear hS hsz
  go_enter Tryz.func23, Tryz.ntmps23
  go_wp2_with fail
  go_loopw [3] (fun i wr => ∃ k : Nat, k ≤ l.length ∧ i = .int .i64 (k : Int) ∧ k + wordLen (l.drop k) = wordLen l ∧ w = wr) (fun i _ => l.length - (intOf i).toNat)
  case atStart => exact ⟨0, Nat.zero_le _, rfl, by simp, rfl⟩
  case round =>
    obtain ⟨k, hk, rfl, hw, rfl⟩ := hrel
    have HW := Lib.hid hw
    clear hw
    by_cases hlt : k < l.length
    · have hks : k < S.size := by rw [HSZ.out]; exact hlt
      have hix : ∀ g : k < S.size, S[k]'g = l.getD k 0 := fun g => HAT.out k g
      have HLT := Lib.hid hlt
      have HP := Lib.hid (rpart_any (l.getD k 0))
      have hwi := fun h => wordLen_in hlt h
      have hwo := fun h => wordLen_out hlt h
      generalize l.getD k 0 = c at *
      by_cases hc : c ∈ innerL
      · rw [decide_eq_true hc] at HP
        have HNX : Hid (k + 1 + wordLen (l.drop (k + 1)) = wordLen l) := by unfold Hid; rw [← HW.out, hwi hc]; omega
        clear hwi hwo hc
        go_wp2_with fail
        refine (HP.out _).mono ?_
        rintro e _ ⟨rfl, rfl⟩
        go_wp2_with fail
        go_roundw
        case rel => exact ⟨k + 1, HLT.out, by go_num, HNX.out, trivial⟩
        case measure => have := HLT.out; simp [intOf]; omega
      · rw [decide_eq_false hc] at HP
        have HE : Hid (wordLen l = k) := by unfold Hid; rw [← HW.out, hwo hc]; rfl
        clear hwi hwo hc
        go_wp2_with fail
        refine (HP.out _).mono ?_
        rintro e _ ⟨rfl, rfl⟩
        go_wp2_with fail
        go_ret
        exact ⟨by rw [HE.out]; rfl, rfl⟩
    · obtain rfl : k = l.length := by omega
      have hks : ¬ l.length < S.size := by rw [HSZ.out]; omega
      have HE : Hid (wordLen l = l.length) := by unfold Hid; rw [← HW.out, List.drop_length]; rfl
      go_wp2_with fail
      go_ret
      exact ⟨by rw [HE.out]; rfl, rfl⟩
end Go.Proofs.YtpionddponmdmaaGreatDoor
/- Walks: the reference's skip. -/
namespace Go.Proofs.YtpionddponmdmaaGreatDoor
open Go.RowKit
attribute [local go_sem] Ext.cell Ext.frozen
attribute [local go_sem ↓] Go.wp_at_zero Go.wp_at_succ
theorem blank_cases {c : UInt8} (h : c ∈ blanksL) : c = 32 ∨ c = 9 ∨ c = 10 ∨ c = 13 := by
  unfold blanksL at h
  simpa using h
theorem skip_nl (r : List UInt8) : skipS true (10 :: r) = skipS false (10 :: r) := by
  have e1 : skipS true (10 :: r) = 1 + skipS false r := by rw [skipS, if_pos rfl]
  have e2 : skipS false (10 :: r) = 1 + skipS false r := by rw [skipS, if_pos (by decide)]
  rw [e1, e2]
theorem skip_in {c : UInt8} (r : List UInt8) (h : c ≠ 10) : skipS true (c :: r) = 1 + skipS true r := by rw [skipS, if_neg h]
end Go.Proofs.YtpionddponmdmaaGreatDoor
