/- Walks: the reference's Trim, zeros, lead, Text; the program's text, trimmed, value. -/
import Derived.Test.YtnnidhjmakpaeaaGreatDoorW1
import Derived.Test.YtnnidhjmakpaeaaGreatDoorW2
namespace Go.Proofs.YtnnidhjmakpaeaaGreatDoor
open Go.RowKit
attribute [local go_sem] Ext.cell Ext.frozen

theorem last_at (t : ByteArray) (h : 0 < t.size) : t.data.toList = t.data.toList.take (t.size - 1) ++ [t[t.size - 1]] := by
  have := snoc_of (l := t.data.toList) (by rw [size_len]; exact h)
  simp only [size_len] at this
  exact this
theorem trim_step (t : ByteArray) (h : 0 < t.size) (h48 : t[t.size - 1].toNat = 48) : trimZ (t.extract 0 (t.size - 1)).data.toList = trimZ t.data.toList := by
  conv => rhs; rw [last_at t h]
  rw [trimZ_snoc, if_pos (UInt8.toNat_inj.1 h48), ext_data, List.drop_zero]
theorem trim_stop (t : ByteArray) (h : 0 < t.size) (h48 : t[t.size - 1].toNat ≠ 48) : trimZ t.data.toList = t.data.toList := by
  conv => lhs; rw [last_at t h]
  rw [trimZ_snoc, if_neg (fun e => h48 (by rw [e]; rfl)), ← last_at t h]
theorem trim_none (t : ByteArray) (h : t.size = 0) : trimZ t.data.toList = t.data.toList := by
  have : t.data.toList = [] := List.length_eq_zero_iff.1 (by rw [size_len]; exact h)
  rw [this]; rfl
theorem ret_string {a b : ByteArray} (h : a = b) : Ending.returned (.string a) = .returned (.string b) := by rw [h]

theorem first_at (t : ByteArray) (h : 1 < t.size) : ∃ d r, t.data.toList = t[0] :: d :: r ∧ (t.extract 1 t.size).data.toList = d :: r := by
  have hl := size_len t
  have e : t[0] = t.data.toList.getD 0 0 := by
    have h0 : 0 < t.data.toList.length := by rw [hl]; omega
    have : t[0] = t.data.toList[0] := rfl
    rw [this, List.getD_eq_getElem?_getD, List.getElem?_eq_getElem h0]
    rfl
  rw [ext_data, List.take_of_length_le (by rw [hl]; exact Nat.le_refl _)]
  rw [e]
  cases hh : t.data.toList with
  | nil => rw [hh] at hl; simp at hl; omega
  | cons a l =>
    cases l with
    | nil => rw [hh] at hl; simp at hl; omega
    | cons d r => exact ⟨d, r, by simp, rfl⟩
theorem lead_step (t : ByteArray) (h : 1 < t.size) (h48 : t[0].toNat = 48) : leadD (t.extract 1 t.size).data.toList = leadD t.data.toList := by
  obtain ⟨d, r, h1, h2⟩ := first_at t h
  rw [h1, h2]
  simp [leadD, UInt8.toNat_inj.1 (show t[0].toNat = (48 : UInt8).toNat from h48)]
theorem lead_stop (t : ByteArray) (h : 1 < t.size) (h48 : t[0].toNat ≠ 48) : leadD t.data.toList = t.data.toList := by
  obtain ⟨d, r, h1, h2⟩ := first_at t h
  rw [h1]
  unfold leadD
  rw [if_neg (fun e => h48 (by rw [e]; rfl))]
theorem lead_short (t : ByteArray) (h : ¬ 1 < t.size) : leadD t.data.toList = t.data.toList := by
  have hl := size_len t
  cases hh : t.data.toList with
  | nil => rfl
  | cons a l =>
    cases l with
    | nil => rfl
    | cons d r => rw [hh] at hl; simp at hl; omega

set_option maxHeartbeats 400000 in
theorem trimmed_any (s : ByteArray) (w : World) :
    Calls Tryz.prog 21 #[.string s] w fun e w' => e = .returned (.string (bs (trimmedD s.data.toList))) ∧ w = w' := by
  have HT := Lib.hid (fun w => trimL0 s w)
  have HD : Hid (trimmedD s.data.toList = if (Lib.trimLeftS s.data.toList [48]).isEmpty then [48] else Lib.trimLeftS s.data.toList [48]) := rfl
  generalize Lib.trimLeftS s.data.toList [48] = l at *
  cases he : l.isEmpty with
  | true =>
    have h1 : (bs l).toList = [] := by rw [bs_toList]; simpa using he
    have h2 : (bs l).toList.isEmpty = true := by rw [bs_toList]; exact he
    have HE := Lib.hid he
    clear he
    go_enter Tryz.func21, Tryz.ntmps21
    go_wp2_with fail
    refine (HT.out _).mono ?_
    rintro e w1 ⟨rfl, rfl⟩
    go_wp2_with fail
    go_ret
    exact ⟨ret_string (by rw [HD.out, HE.out]; rfl), rfl⟩
  | false =>
    have h2 : (bs l).toList.isEmpty = false := by rw [bs_toList]; exact he
    have HE := Lib.hid he
    clear he
    go_enter Tryz.func21, Tryz.ntmps21
    go_wp2_with fail
    refine (HT.out _).mono ?_
    rintro e w1 ⟨rfl, rfl⟩
    go_wp2_with fail
    go_ret
    exact ⟨ret_string (by rw [HD.out, HE.out]; rfl), rfl⟩
end Go.Proofs.YtnnidhjmakpaeaaGreatDoor
