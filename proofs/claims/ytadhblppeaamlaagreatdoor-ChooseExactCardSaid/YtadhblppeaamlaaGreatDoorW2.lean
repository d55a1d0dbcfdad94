/- Walks: the reference's leaves: digits, Zero, Value, Trim, zeros, lead. -/
import Derived.Test.YtadhblppeaamlaaGreatDoorK
import Derived.Test.YtadhblppeaamlaaGreatDoorP1
namespace Go.Proofs.YtadhblppeaamlaaGreatDoor
open Go.RowKit

theorem take_snoc (s : ByteArray) (k : Nat) (h : k < s.size) : s.data.toList.take (k + 1) = s.data.toList.take k ++ [s[k]] := by
  rw [List.take_succ_eq_append_getElem (by simpa using h)]; rfl
theorem take_all (s : ByteArray) : s.data.toList.take s.size = s.data.toList := List.take_of_length_le (by rw [ba_len]; exact Nat.le_refl _)
theorem all_at {p : UInt8 → Bool} {s : ByteArray} {k : Nat} (h : k < s.size) (hp : p s[k] = false) : s.data.toList.all p = false := by
  rw [← Bool.not_eq_true, List.all_eq_true]
  intro ha
  have : s[k] ∈ s.data.toList := by
    have := List.getElem_mem (l := s.data.toList) (n := k) (by simpa using h)
    exact this
  have := ha _ this
  rw [hp] at this
  cases this

set_option maxHeartbeats 400000 in
theorem rdigits_any (s : ByteArray) (w : World) (hs : s.size ≤ 9223372036854775807) :
    Calls Tryz.prog 80 #[.string s] w fun e w' => e = .returned (.bool (allD s.data.toList)) ∧ w = w' := by
  go_enter Tryz.func80, Tryz.ntmps80
  go_wp2
  go_loop [3] (fun i => ∃ k : Nat, k ≤ s.size ∧ i = .int .i64 k ∧ allD (s.data.toList.take k) = true) (fun i => s.size - (intOf i).toNat)
  case atStart => exact ⟨0, Nat.zero_le _, rfl, rfl⟩
  case round =>
    obtain ⟨k, hk, rfl, hrel⟩ := hrel
    have HR := Lib.hid hrel
    clear hrel
    by_cases hlt : k < s.size
    · have HF : Hid (isD s[k] = false → allD s.data.toList = false) := fun h => all_at hlt h
      have HS : Hid (isD s[k] = true → allD (s.data.toList.take (k + 1)) = true) := fun h => by
        rw [take_snoc s k hlt, allD_append, HR.out]; simp [allD, h]
      have HI : Hid (isD s[k] = true ↔ 48 ≤ s[k].toNat ∧ s[k].toNat ≤ 57) := isD_iff _
      by_cases h1 : s[k].toNat < 48
      · go_wp2
        go_ret
        exact ⟨ret_bool (HF.out (by rw [← Bool.not_eq_true, HI.out]; omega)).symm, rfl⟩
      · by_cases h2 : 57 < s[k].toNat
        · go_wp2
          go_ret
          exact ⟨ret_bool (HF.out (by rw [← Bool.not_eq_true, HI.out]; omega)).symm, rfl⟩
        · go_wp2
          go_round
          case rel => exact ⟨k + 1, by omega, by go_num, HS.out (HI.out.2 ⟨by omega, by omega⟩)⟩
          case measure => simp [intOf]; omega
    · obtain rfl : k = s.size := by omega
      go_wp2
      go_ret
      exact ⟨ret_bool (by have := HR.out; rw [take_all] at this; exact this.symm), rfl⟩

set_option maxHeartbeats 400000 in
theorem rzero_any (s : ByteArray) (w : World) (hs : s.size ≤ 9223372036854775807) :
    Calls Tryz.prog 81 #[.string s] w fun e w' => e = .returned (.bool (allZ s.data.toList)) ∧ w = w' := by
  go_enter Tryz.func81, Tryz.ntmps81
  go_wp2
  go_loop [3] (fun i => ∃ k : Nat, k ≤ s.size ∧ i = .int .i64 k ∧ allZ (s.data.toList.take k) = true) (fun i => s.size - (intOf i).toNat)
  case atStart => exact ⟨0, Nat.zero_le _, rfl, rfl⟩
  case round =>
    obtain ⟨k, hk, rfl, hrel⟩ := hrel
    have HR := Lib.hid hrel
    clear hrel
    by_cases hlt : k < s.size
    · have HF : Hid ((s[k] == 48) = false → allZ s.data.toList = false) := fun h => all_at hlt h
      have HS : Hid ((s[k] == 48) = true → allZ (s.data.toList.take (k + 1)) = true) := fun h => by
        rw [take_snoc s k hlt, allZ_append, HR.out]; simp [allZ, h]
      have HI : Hid ((s[k] == 48) = true ↔ s[k].toNat = 48) := by
        rw [Hid, beq_iff_eq]; exact UInt8.toNat_inj.symm
      by_cases h1 : s[k].toNat = 48
      · have h2 : ((s[k].toNat : Int) != 48) = false := by simp; omega
        have H1 := Lib.hid h1
        clear h1
        go_wp2
        go_round
        case rel => exact ⟨k + 1, by omega, by go_num, HS.out (HI.out.2 H1.out)⟩
        case measure => simp [intOf]; omega
      · have h2 : ((s[k].toNat : Int) != 48) = true := by simp; omega
        go_wp2
        go_ret
        exact ⟨ret_bool (HF.out (by rw [← Bool.not_eq_true, HI.out]; exact h1)).symm, rfl⟩
    · obtain rfl : k = s.size := by omega
      go_wp2
      go_ret
      exact ⟨ret_bool (by have := HR.out; rw [take_all] at this; exact this.symm), rfl⟩

theorem pow_le_18 {k : Nat} (h : k ≤ 18) : 10 ^ k ≤ 1000000000000000000 := by
  have := Nat.pow_le_pow_right (n := 10) (by omega) h
  simpa using this

set_option maxHeartbeats 400000 in
theorem rvalue_any (s : ByteArray) (w : World) (hs : s.size ≤ 18) (hd : allD s.data.toList = true) :
    Calls Tryz.prog 107 #[.string s] w fun e w' => e = .returned (.int .i64 (valD s.data.toList : Nat)) ∧ w = w' := by
  have HD := Lib.hid hd
  clear hd
  go_enter Tryz.func107, Tryz.ntmps107
  go_wp2
  go_loop [3, 4] (fun n i => ∃ k : Nat, k ≤ s.size ∧ i = .int .i64 k ∧ n = .int .i64 (valD (s.data.toList.take k) : Nat)) (fun _ i => s.size - (intOf i).toNat)
  case atStart => exact ⟨0, Nat.zero_le _, rfl, rfl⟩
  case round =>
    obtain ⟨k, hk, rfl, rfl⟩ := hrel
    by_cases hlt : k < s.size
    · have hsn := valD_snoc (s.data.toList.take k) s[k]
      rw [← take_snoc s k hlt] at hsn
      have HS := Lib.hid hsn
      have hda : allD (s.data.toList.take k) = true := List.all_eq_true.2 fun x hx => List.all_eq_true.1 HD.out x (List.mem_of_mem_take hx)
      have hdk : isD s[k] = true := List.all_eq_true.1 HD.out _ (by
        have := List.getElem_mem (l := s.data.toList) (n := k) (by simpa using hlt)
        exact this)
      obtain ⟨h1, h2⟩ := (isD_iff _).1 hdk
      have hv := valD_lt _ hda
      have hl : (s.data.toList.take k).length ≤ k := List.length_take_le _ _
      have hp : valD (s.data.toList.take k) ≤ 99999999999999999 := by
        have := Nat.pow_le_pow_right (n := 10) (by omega) (show (s.data.toList.take k).length ≤ 17 by omega)
        have e : 10 ^ 17 = 100000000000000000 := by decide
        omega
      clear hsn hda hdk hv hl
      generalize valD (s.data.toList.take k) = v at *
      generalize hvv : valD (s.data.toList.take (k + 1)) = v2 at *
      have HV := Lib.hid hvv
      clear hvv
      go_wp2
      go_round
      case rel => exact ⟨k + 1, by omega, by go_num, by rw [HV.out, HS.out]; go_num⟩
      case measure => simp [intOf]; omega
    · obtain rfl : k = s.size := by omega
      go_wp2
      go_ret
      exact ⟨ret_int (by rw [take_all]), rfl⟩
end Go.Proofs.YtadhblppeaamlaaGreatDoor
