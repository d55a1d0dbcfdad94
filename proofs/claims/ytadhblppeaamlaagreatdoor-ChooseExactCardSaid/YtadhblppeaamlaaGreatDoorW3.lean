/- Walks: the reference's Trim, zeros, lead, Text; the program's text, trimmed, value. -/
import Derived.Test.YtadhblppeaamlaaGreatDoorW1
import Derived.Test.YtadhblppeaamlaaGreatDoorW2
namespace Go.Proofs.YtadhblppeaamlaaGreatDoor
open Go.RowKit
attribute [local go_sem] Ext.cell Ext.frozen

theorem last_at (t : ByteArray) (h : 0 < t.size) : t.data.toList = t.data.toList.take (t.size - 1) ++ [t[t.size - 1]] := by
  have := snoc_of (l := t.data.toList) (by rw [size_len]; exact h)
  simp only [size_len] at this
  exact this
theorem trim_step (t : ByteArray) (h : 0 < t.size) (h48 : t[t.size - 1].toNat = 48) : trimZ (t.extract 0 (t.size - 1)).data.toList = trimZ t.data.toList := by
  conv => rhs; rw [last_at t h]
  rw [trimZ_snoc, if_pos (UInt8.toNat_inj.1 h48), ext_data, List.drop_zero]
theorem trim_stop (t : ByteArray) (h : 0 < t.size) (h48 : t[t.size - 1].toNat ≠ 48) : trimZ t.data.toList = t.data.toList := by
  conv => lhs; rw [last_at t h]
  rw [trimZ_snoc, if_neg (fun e => h48 (by rw [e]; rfl)), ← last_at t h]
theorem trim_none (t : ByteArray) (h : t.size = 0) : trimZ t.data.toList = t.data.toList := by
  have : t.data.toList = [] := List.length_eq_zero_iff.1 (by rw [size_len]; exact h)
  rw [this]; rfl
theorem ret_string {a b : ByteArray} (h : a = b) : Ending.returned (.string a) = .returned (.string b) := by rw [h]

set_option maxHeartbeats 400000 in
theorem rtrim_any (s : ByteArray) (w : World) (hs : s.size ≤ 9223372036854775807) :
    Calls Tryz.prog 108 #[.string s] w fun e w' => e = .returned (.string (bs (trimZ s.data.toList))) ∧ w = w' := by
  go_enter Tryz.func108, Tryz.ntmps108
  go_wp2
  go_loop [0] (fun v => ∃ t : ByteArray, v = .string t ∧ t.size ≤ s.size ∧ trimZ t.data.toList = trimZ s.data.toList) (fun v => match v with | .string t => t.size | _ => 0)
  case atStart => exact ⟨s, rfl, Nat.le_refl _, rfl⟩
  case round =>
    obtain ⟨t, rfl, ht, hrel⟩ := hrel
    have HR := Lib.hid hrel
    clear hrel
    by_cases h0 : 0 < t.size
    · by_cases h48 : t[t.size - 1].toNat = 48
      · have H1 := Lib.hid (trim_step t h0 h48)
        have h2 : ((t[t.size - 1].toNat : Int) == 48) = true := by simp; omega
        have H3 := Lib.hid h48
        clear h48
        go_wp2
        go_round
        case rel => exact ⟨_, rfl, by simp [ByteArray.size_extract]; omega, by rw [H1.out, HR.out]⟩
        case measure => simp [ByteArray.size_extract]; omega
      · have H1 := Lib.hid (trim_stop t h0 h48)
        have h2 : ((t[t.size - 1].toNat : Int) == 48) = false := by simp; omega
        clear h48
        go_wp2
        go_ret
        exact ⟨ret_string (by rw [← HR.out, H1.out, bs_self]), rfl⟩
    · have H1 := Lib.hid (trim_none t (by omega))
      go_wp2
      go_ret
      exact ⟨ret_string (by rw [← HR.out, H1.out, bs_self]), rfl⟩

theorem first_at (t : ByteArray) (h : 1 < t.size) : ∃ d r, t.data.toList = t[0] :: d :: r ∧ (t.extract 1 t.size).data.toList = d :: r := by
  have hl := size_len t
  have e : t[0] = t.data.toList.getD 0 0 := by
    have h0 : 0 < t.data.toList.length := by rw [hl]; omega
    have : t[0] = t.data.toList[0] := rfl
    rw [this, List.getD_eq_getElem?_getD, List.getElem?_eq_getElem h0]
    rfl
  rw [ext_data, List.take_of_length_le (by rw [hl]; exact Nat.le_refl _)]
  rw [e]
  cases hh : t.data.toList with
  | nil => rw [hh] at hl; simp at hl; omega
  | cons a l =>
    cases l with
    | nil => rw [hh] at hl; simp at hl; omega
    | cons d r => exact ⟨d, r, by simp, rfl⟩
theorem lead_step (t : ByteArray) (h : 1 < t.size) (h48 : t[0].toNat = 48) : leadD (t.extract 1 t.size).data.toList = leadD t.data.toList := by
  obtain ⟨d, r, h1, h2⟩ := first_at t h
  rw [h1, h2]
  simp [leadD, UInt8.toNat_inj.1 (show t[0].toNat = (48 : UInt8).toNat from h48)]
theorem lead_stop (t : ByteArray) (h : 1 < t.size) (h48 : t[0].toNat ≠ 48) : leadD t.data.toList = t.data.toList := by
  obtain ⟨d, r, h1, h2⟩ := first_at t h
  rw [h1]
  unfold leadD
  rw [if_neg (fun e => h48 (by rw [e]; rfl))]
theorem lead_short (t : ByteArray) (h : ¬ 1 < t.size) : leadD t.data.toList = t.data.toList := by
  have hl := size_len t
  cases hh : t.data.toList with
  | nil => rfl
  | cons a l =>
    cases l with
    | nil => rfl
    | cons d r => rw [hh] at hl; simp at hl; omega

end Go.Proofs.YtadhblppeaamlaaGreatDoor
