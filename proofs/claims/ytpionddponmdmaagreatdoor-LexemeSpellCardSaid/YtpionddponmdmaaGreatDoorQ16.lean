/- Any number's digits; the laid tables. -/
import Derived.Test.YtpionddponmdmaaGreatDoorQ15
import Derived.Test.YtpionddponmdmaaGreatDoorQ00
import Derived.Lib.AppendIntMem
import Derived.Lib.ItoaLen
namespace Go.Proofs.YtpionddponmdmaaGreatDoor
open Go.RowKit
def TabTen (w : World) : Prop := Lib.TabBelow Tryz.prog w.heap.size w "internal/strconv.uint64pow10" .u64 Lib.pow10Tab
theorem TabTen.below {w w' : World} (h : TabTen w) (hb : Below w.heap.size w w') : TabTen w' := fun w2 h2 => h w2 (hb.trans (h2.mono hb.size))
theorem ItoaOk.any {n : Int} (h0 : -9223372036854775808 ≤ n) (h1 : n ≤ 9223372036854775807) {w : World} (ht : TabTen w) : ItoaOk n w :=
  ⟨Nat.le_trans (Lib.itoa_length_le n h0 h1) (by omega), fun w' g => (Tryz.strconv_Itoa n h0 h1 w' (ht w' g)).mono fun _ _ ⟨he, k, os, hw⟩ => ⟨he, by rw [hw]; exact Lib.below_grow _ w' (Nat.le_refl _) k os⟩⟩
end Go.Proofs.YtpionddponmdmaaGreatDoor
/- The first delimiter of a string in quotation marks: plain, and the program's walk. -/
namespace Go.Proofs.YtpionddponmdmaaGreatDoor
open Go.RowKit
attribute [local go_sem ↓] Go.wp_at_zero Go.wp_at_succ
/-- the offset of the first quotation mark that no backslash stands before -/
def endL : List UInt8 → Option Nat
  | [] => none
  | [c] => if c = 34 then some 0 else none
  | c :: d :: r => if c = 34 then some 0 else if c = 92 then (endL r).map (· + 2) else (endL (d :: r)).map (· + 1)
theorem endL_q (r : List UInt8) : endL (34 :: r) = some 0 := by cases r <;> simp [endL]
theorem endL_esc (d : UInt8) (r : List UInt8) : endL (92 :: d :: r) = (endL r).map (· + 2) := by simp [endL]
theorem endL_one {c : UInt8} (h1 : c ≠ 34) (h2 : c ≠ 92) (r : List UInt8) : endL (c :: r) = (endL r).map (· + 1) := by
  cases r <;> simp [endL, h1, h2]
theorem hexD_ne (n : Nat) (h : n < 16) : hexD n ≠ 34 ∧ hexD n ≠ 92 := by
  have k : ∀ v : Fin 16, hexD v.1 ≠ 34 ∧ hexD v.1 ≠ 92 := by decide
  exact k ⟨n, h⟩
theorem endL_escC (c : UInt8) (r : List UInt8) : endL (escC c ++ r) = (endL r).map (· + (escC c).length) := by
  unfold escC
  split
  · simp [endL_esc]
  · split
    · simp [endL_esc]
    · split
      · simp [endL_esc]
      · split
        · simp [endL_esc]
        · split
          · simp [endL_esc]
          · split
            · obtain ⟨a1, a2⟩ := hexD_ne (c.toNat / 16) (by have := c.toNat_lt; omega)
              obtain ⟨b1, b2⟩ := hexD_ne (c.toNat % 16) (by omega)
              simp only [List.cons_append, List.nil_append]
              rw [endL_esc, endL_one a1 a2, endL_one b1 b2]
              cases endL r <;> simp
            · rename_i h1 _ _ _ h2 _
              simp only [List.cons_append, List.nil_append]
              rw [endL_one h2 h1]
              rfl
theorem endL_escS (x r : List UInt8) : endL (escS x ++ 34 :: r) = some (escS x).length := by
  induction x with
  | nil => exact endL_q r
  | cons c x ih =>
    show endL ((escC c ++ escS x) ++ 34 :: r) = some (escC c ++ escS x).length
    rw [List.append_assoc, endL_escC, ih, List.length_append]
    simp [Nat.add_comm]
def endV (l : List UInt8) : Int := match endL l with | some k => (k : Int) | none => -1
theorem endV_some {l : List UInt8} {k : Nat} (h : endL l = some k) : endV l = (k : Int) := by unfold endV; rw [h]
theorem endV_none {l : List UInt8} (h : endL l = none) : endV l = -1 := by unfold endV; rw [h]
theorem drop_at {l : List UInt8} {k : Nat} (h : k < l.length) : l.drop k = l.getD k 0 :: l.drop (k + 1) := by
  rw [List.drop_eq_getElem_cons h]; simp [List.getD, List.getElem?_eq_getElem h]
set_option maxRecDepth 20000 in
set_option maxHeartbeats 4000000 in
theorem end_any (s : ByteArray) (w : World) (hs : s.size ≤ 1000000) :
    Calls Tryz.prog 84 #[.int .i64 2, .string s, .int .u8 34] w fun e w' => e = .returned (.int .i64 (endV s.data.toList)) ∧ w = w' := by
  have HST := Lib.hid style_any
  have hsl : s.data.toList.length = s.size := ba_len s
  go_enter Tryz.func84, Tryz.ntmps84
  go_wp2_with fail
  refine (HST.out _).mono ?_
  rintro e _ ⟨rfl, rfl⟩
  go_wp2_with fail
  go_loop [7] (fun i => ∃ k : Nat, i = .int .i64 (k : Int) ∧ k ≤ s.size + 1 ∧ endL s.data.toList = (endL (s.data.toList.drop k)).map (· + k)) (fun i => s.size + 1 - (intOf i).toNat)
  case atStart => exact ⟨0, rfl, Nat.zero_le _, by rw [List.drop_zero]; cases endL s.data.toList <;> rfl⟩
  case round =>
    obtain ⟨k, rfl, hk, hinv⟩ := hrel
    have HI := Lib.hid hinv
    clear hinv
    by_cases hlt : k < s.size
    · have hkl : k < s.data.toList.length := by rw [hsl]; exact hlt
      have hget : s[k] = s.data.toList.getD k 0 := by
        simp [List.getD, List.getElem?_eq_getElem hkl]; rfl
      have HD := Lib.hid (drop_at hkl)
      rw [← hget] at HD
      clear hget
      generalize hc : s[k] = c at *
      by_cases h34 : c = 34
      · subst h34
        have HE : Hid (endV s.data.toList = (k : Int)) := endV_some (by rw [HI.out, HD.out, endL_q]; simp)
        go_wp2_with fail
        go_ret
        exact ⟨by rw [HE.out]; rfl, rfl⟩
      · have g34 : ((c.toNat : Int) == 34) = false := neU h34
        by_cases h92 : c = 92
        · subst h92
          have HN : Hid (endL s.data.toList = (endL (s.data.toList.drop (k + 2))).map (· + (k + 2))) := by
            unfold Hid
            by_cases h2 : k + 1 < s.data.toList.length
            · rw [HI.out, HD.out, drop_at h2, endL_esc]
              cases endL (s.data.toList.drop (k + 1 + 1)) <;> simp [Nat.add_comm, Nat.add_left_comm]
            · rw [HI.out, HD.out, List.drop_of_length_le (by omega : s.data.toList.length ≤ k + 1), List.drop_of_length_le (by omega : s.data.toList.length ≤ k + 2)]
              simp [endL]
          clear HD
          go_wp2_with fail
          go_round
          case rel => exact ⟨k + 2, by go_num, by omega, HN.out⟩
          case measure => simp [intOf]; omega
        · have g92 : ((c.toNat : Int) == 92) = false := neU h92
          have HN : Hid (endL s.data.toList = (endL (s.data.toList.drop (k + 1))).map (· + (k + 1))) := by
            unfold Hid
            rw [HI.out, HD.out, endL_one h34 h92]
            cases endL (s.data.toList.drop (k + 1)) <;> simp [Nat.add_comm, Nat.add_left_comm]
          clear HD
          go_wp2_with fail
          go_round
          case rel => exact ⟨k + 1, by go_num, by omega, HN.out⟩
          case measure => simp [intOf]; omega
    · have HE : Hid (endV s.data.toList = -1) := endV_none (by rw [HI.out, List.drop_of_length_le (by omega)]; rfl)
      go_wp2_with fail
      go_ret
      exact ⟨by rw [HE.out]; rfl, rfl⟩
end Go.Proofs.YtpionddponmdmaaGreatDoor
