/- Walks: the leaves of the decimal numbers. -/
import Derived.Test.YtadhblppeaamlaaGreatDoorQ00
import Derived.Test.YtadhblppeaamlaaGreatDoorQ02
import Derived.Shelf.Strings.SlTrimAscii
import Derived.Deep.RegionHeld3
import Derived.Deep.DrawnRows
namespace Go.Proofs.YtadhblppeaamlaaGreatDoor
open Go.RowKit
attribute [local go_sem] Ext.cell Ext.frozen

/-- a string's length is a number that an int holds -/
theorem trim0 (s : ByteArray) (w : World) (hs : s.size ≤ 9223372036854775807) :
    Calls Tryz.prog 101 #[.string s, .string ⟨#[48]⟩] w fun e w' => e = .returned (.string (bs (Lib.trimS s.data.toList [48]))) ∧ Below w.heap.size w w' :=
  (Tryz.strings_Trim_one s 48 (by decide) w hs).mono fun e w' ⟨he, hw⟩ => ⟨by rw [he, Lib.trimS_one]; rfl, by
    rcases hw with rfl | rfl
    · exact Below.refl _ _
    · exact below_drew1 _⟩
theorem trimD (s : ByteArray) (w : World) (hs : s.size ≤ 9223372036854775807) :
    Calls Tryz.prog 101 #[.string s, .string ⟨#[48, 49, 50, 51, 52, 53, 54, 55, 56, 57]⟩] w fun e w' => e = .returned (.string (bs (Lib.trimS s.data.toList [48, 49, 50, 51, 52, 53, 54, 55, 56, 57]))) ∧ Below w.heap.size w w' :=
  (Any.strings_Trim_laid Tryz.lays160 (by kernel_rfl) s ⟨#[48, 49, 50, 51, 52, 53, 54, 55, 56, 57]⟩ w hs (by decide) (ascii_of_all (by decide))).mono fun e w' ⟨he, hw⟩ => ⟨he, hw⟩
theorem trimR0 (s : ByteArray) (w : World) (hs : s.size ≤ 9223372036854775807) :
    Calls Tryz.prog 103 #[.string s, .string ⟨#[48]⟩] w fun e w' => e = .returned (.string (bs (trimZ s.data.toList))) ∧ w = w' :=
  (Tryz.strings_TrimRight_one s 48 (by decide) w hs).mono fun e w' ⟨he, hw⟩ => ⟨by rw [he]; unfold trimZ; rw [Lib.trimRightS_one]; rfl, hw.symm⟩
theorem isEmpty_iff {l : List UInt8} : l.isEmpty = decide (l = []) := by cases l <;> rfl

set_option maxHeartbeats 400000 in
theorem digits_any (s : ByteArray) (w : World) (hs : s.size ≤ 9223372036854775807) :
    Calls Tryz.prog 91 #[.string s] w fun e w' => e = .returned (.bool (allD s.data.toList)) ∧ Below w.heap.size w w' := by
  have HE : Hid ((Lib.trimS s.data.toList [48, 49, 50, 51, 52, 53, 54, 55, 56, 57]).isEmpty = allD s.data.toList) := by
    rw [Hid, isEmpty_iff, Bool.eq_iff_iff, decide_eq_true_iff, trimS_nil]
    simp only [digit_mem]
    rfl
  have HT := Lib.hid (fun w => trimD s w hs)
  generalize Lib.trimS s.data.toList [48, 49, 50, 51, 52, 53, 54, 55, 56, 57] = l at *
  go_enter Tryz.func91, Tryz.ntmps91
  go_wp2_with fail
  refine (HT.out _).mono ?_
  rintro e w1 ⟨rfl, hb⟩
  have HB := Lib.hid hb
  clear hb
  go_wp2_with fail
  go_ret
  exact ⟨ret_bool (by rw [← HE.out]; simp [bs_toList]), HB.out⟩

set_option maxHeartbeats 400000 in
theorem zero_any (s : ByteArray) (w : World) (hs : s.size ≤ 9223372036854775807) :
    Calls Tryz.prog 102 #[.string s] w fun e w' => e = .returned (.bool (allZ s.data.toList)) ∧ Below w.heap.size w w' := by
  have HE : Hid ((Lib.trimS s.data.toList [48]).isEmpty = allZ s.data.toList) := by
    rw [Hid, isEmpty_iff, Bool.eq_iff_iff, decide_eq_true_iff, trimS_nil, allZ, List.all_eq_true, List.all_eq_true]
    simp
  have HT := Lib.hid (fun w => trim0 s w hs)
  generalize Lib.trimS s.data.toList [48] = l at *
  go_enter Tryz.func102, Tryz.ntmps102
  go_wp2_with fail
  refine (HT.out _).mono ?_
  rintro e w1 ⟨rfl, hb⟩
  have HB := Lib.hid hb
  clear hb
  go_wp2_with fail
  go_ret
  exact ⟨ret_bool (by rw [← HE.out]; simp [bs_toList]), HB.out⟩

set_option maxHeartbeats 400000 in
theorem numZero_any (n : Bool) (a b : ByteArray) (w : World) (ha : a.size ≤ 9223372036854775807) (hb : b.size ≤ 9223372036854775807) :
    Calls Tryz.prog 92 #[.agg #[.bool n, .string a, .string b]] w fun e w' => e = .returned (.bool (allZ a.data.toList && allZ b.data.toList)) ∧ Below w.heap.size w w' := by
  have HA := Lib.hid (fun w => zero_any a w ha)
  have HB := Lib.hid (fun w => zero_any b w hb)
  generalize allZ a.data.toList = za at *
  generalize allZ b.data.toList = zb at *
  go_enter Tryz.func92, Tryz.ntmps92
  cases za
  · go_wp2_with fail
    refine (Calls.toExt (HA.out _)).mono ?_
    rintro e _ ⟨rfl, x1, rfl⟩
    go_wp2_with fail
    go_ret
    exact ⟨rfl, ((Bel.refl w).alloc _).ext _⟩
  · go_wp2_with fail
    refine (Calls.toExt (HA.out _)).mono ?_
    rintro e _ ⟨rfl, x1, rfl⟩
    have hz := x1.2.size
    simp at hz
    go_wp2_with fail
    refine (Calls.toExt (HB.out _)).mono ?_
    rintro e _ ⟨rfl, x2, rfl⟩
    go_wp2_with fail
    go_ret
    exact ⟨rfl, (((Bel.refl w).alloc _).ext _).ext _⟩
end Go.Proofs.YtadhblppeaamlaaGreatDoor
/- Walks: the reference's leaves: digits, Zero, Value, Trim, zeros, lead. -/
namespace Go.Proofs.YtadhblppeaamlaaGreatDoor
open Go.RowKit

theorem take_snoc (s : ByteArray) (k : Nat) (h : k < s.size) : s.data.toList.take (k + 1) = s.data.toList.take k ++ [s[k]] := by
  rw [List.take_succ_eq_append_getElem (by simpa using h)]; rfl
theorem take_all (s : ByteArray) : s.data.toList.take s.size = s.data.toList := List.take_of_length_le (by rw [ba_len]; exact Nat.le_refl _)
theorem all_at {p : UInt8 → Bool} {s : ByteArray} {k : Nat} (h : k < s.size) (hp : p s[k] = false) : s.data.toList.all p = false := by
  rw [← Bool.not_eq_true, List.all_eq_true]
  intro ha
  have : s[k] ∈ s.data.toList := by
    have := List.getElem_mem (l := s.data.toList) (n := k) (by simpa using h)
    exact this
  have := ha _ this
  rw [hp] at this
  cases this

set_option maxHeartbeats 400000 in
theorem rdigits_any (s : ByteArray) (w : World) (hs : s.size ≤ 9223372036854775807) :
    Calls Tryz.prog 80 #[.string s] w fun e w' => e = .returned (.bool (allD s.data.toList)) ∧ w = w' := by
  go_enter Tryz.func80, Tryz.ntmps80
  go_wp2
  go_loop [3] (fun i => ∃ k : Nat, k ≤ s.size ∧ i = .int .i64 k ∧ allD (s.data.toList.take k) = true) (fun i => s.size - (intOf i).toNat)
  case atStart => exact ⟨0, Nat.zero_le _, rfl, rfl⟩
  case round =>
    obtain ⟨k, hk, rfl, hrel⟩ := hrel
    have HR := Lib.hid hrel
    clear hrel
    by_cases hlt : k < s.size
    · have HF : Hid (isD s[k] = false → allD s.data.toList = false) := fun h => all_at hlt h
      have HS : Hid (isD s[k] = true → allD (s.data.toList.take (k + 1)) = true) := fun h => by
        rw [take_snoc s k hlt, allD_append, HR.out]; simp [allD, h]
      have HI : Hid (isD s[k] = true ↔ 48 ≤ s[k].toNat ∧ s[k].toNat ≤ 57) := isD_iff _
      by_cases h1 : s[k].toNat < 48
      · go_wp2
        go_ret
        exact ⟨ret_bool (HF.out (by rw [← Bool.not_eq_true, HI.out]; omega)).symm, rfl⟩
      · by_cases h2 : 57 < s[k].toNat
        · go_wp2
          go_ret
          exact ⟨ret_bool (HF.out (by rw [← Bool.not_eq_true, HI.out]; omega)).symm, rfl⟩
        · go_wp2
          go_round
          case rel => exact ⟨k + 1, by omega, by go_num, HS.out (HI.out.2 ⟨by omega, by omega⟩)⟩
          case measure => simp [intOf]; omega
    · obtain rfl : k = s.size := by omega
      go_wp2
      go_ret
      exact ⟨ret_bool (by have := HR.out; rw [take_all] at this; exact this.symm), rfl⟩

set_option maxHeartbeats 400000 in
theorem rzero_any (s : ByteArray) (w : World) (hs : s.size ≤ 9223372036854775807) :
    Calls Tryz.prog 81 #[.string s] w fun e w' => e = .returned (.bool (allZ s.data.toList)) ∧ w = w' := by
  go_enter Tryz.func81, Tryz.ntmps81
  go_wp2
  go_loop [3] (fun i => ∃ k : Nat, k ≤ s.size ∧ i = .int .i64 k ∧ allZ (s.data.toList.take k) = true) (fun i => s.size - (intOf i).toNat)
  case atStart => exact ⟨0, Nat.zero_le _, rfl, rfl⟩
  case round =>
    obtain ⟨k, hk, rfl, hrel⟩ := hrel
    have HR := Lib.hid hrel
    clear hrel
    by_cases hlt : k < s.size
    · have HF : Hid ((s[k] == 48) = false → allZ s.data.toList = false) := fun h => all_at hlt h
      have HS : Hid ((s[k] == 48) = true → allZ (s.data.toList.take (k + 1)) = true) := fun h => by
        rw [take_snoc s k hlt, allZ_append, HR.out]; simp [allZ, h]
      have HI : Hid ((s[k] == 48) = true ↔ s[k].toNat = 48) := by
        rw [Hid, beq_iff_eq]; exact UInt8.toNat_inj.symm
      by_cases h1 : s[k].toNat = 48
      · have h2 : ((s[k].toNat : Int) != 48) = false := by simp; omega
        have H1 := Lib.hid h1
        clear h1
        go_wp2
        go_round
        case rel => exact ⟨k + 1, by omega, by go_num, HS.out (HI.out.2 H1.out)⟩
        case measure => simp [intOf]; omega
      · have h2 : ((s[k].toNat : Int) != 48) = true := by simp; omega
        go_wp2
        go_ret
        exact ⟨ret_bool (HF.out (by rw [← Bool.not_eq_true, HI.out]; exact h1)).symm, rfl⟩
    · obtain rfl : k = s.size := by omega
      go_wp2
      go_ret
      exact ⟨ret_bool (by have := HR.out; rw [take_all] at this; exact this.symm), rfl⟩

theorem pow_le_18 {k : Nat} (h : k ≤ 18) : 10 ^ k ≤ 1000000000000000000 := by
  have := Nat.pow_le_pow_right (n := 10) (by omega) h
  simpa using this

set_option maxHeartbeats 400000 in
theorem rvalue_any (s : ByteArray) (w : World) (hs : s.size ≤ 18) (hd : allD s.data.toList = true) :
    Calls Tryz.prog 107 #[.string s] w fun e w' => e = .returned (.int .i64 (valD s.data.toList : Nat)) ∧ w = w' := by
  have HD := Lib.hid hd
  clear hd
  go_enter Tryz.func107, Tryz.ntmps107
  go_wp2
  go_loop [3, 4] (fun n i => ∃ k : Nat, k ≤ s.size ∧ i = .int .i64 k ∧ n = .int .i64 (valD (s.data.toList.take k) : Nat)) (fun _ i => s.size - (intOf i).toNat)
  case atStart => exact ⟨0, Nat.zero_le _, rfl, rfl⟩
  case round =>
    obtain ⟨k, hk, rfl, rfl⟩ := hrel
    by_cases hlt : k < s.size
    · have hsn := valD_snoc (s.data.toList.take k) s[k]
      rw [← take_snoc s k hlt] at hsn
      have HS := Lib.hid hsn
      have hda : allD (s.data.toList.take k) = true := List.all_eq_true.2 fun x hx => List.all_eq_true.1 HD.out x (List.mem_of_mem_take hx)
      have hdk : isD s[k] = true := List.all_eq_true.1 HD.out _ (by
        have := List.getElem_mem (l := s.data.toList) (n := k) (by simpa using hlt)
        exact this)
      obtain ⟨h1, h2⟩ := (isD_iff _).1 hdk
      have hv := valD_lt _ hda
      have hl : (s.data.toList.take k).length ≤ k := List.length_take_le _ _
      have hp : valD (s.data.toList.take k) ≤ 99999999999999999 := by
        have := Nat.pow_le_pow_right (n := 10) (by omega) (show (s.data.toList.take k).length ≤ 17 by omega)
        have e : 10 ^ 17 = 100000000000000000 := by decide
        omega
      clear hsn hda hdk hv hl
      generalize valD (s.data.toList.take k) = v at *
      generalize hvv : valD (s.data.toList.take (k + 1)) = v2 at *
      have HV := Lib.hid hvv
      clear hvv
      go_wp2
      go_round
      case rel => exact ⟨k + 1, by omega, by go_num, by rw [HV.out, HS.out]; go_num⟩
      case measure => simp [intOf]; omega
    · obtain rfl : k = s.size := by omega
      go_wp2
      go_ret
      exact ⟨ret_int (by rw [take_all]), rfl⟩
end Go.Proofs.YtadhblppeaamlaaGreatDoor
/- Walks: the reference's Trim, zeros, lead, Text; the program's text, trimmed, value. -/
namespace Go.Proofs.YtadhblppeaamlaaGreatDoor
open Go.RowKit
attribute [local go_sem] Ext.cell Ext.frozen

theorem last_at (t : ByteArray) (h : 0 < t.size) : t.data.toList = t.data.toList.take (t.size - 1) ++ [t[t.size - 1]] := by
  have := snoc_of (l := t.data.toList) (by rw [size_len]; exact h)
  simp only [size_len] at this
  exact this
theorem trim_step (t : ByteArray) (h : 0 < t.size) (h48 : t[t.size - 1].toNat = 48) : trimZ (t.extract 0 (t.size - 1)).data.toList = trimZ t.data.toList := by
  conv => rhs; rw [last_at t h]
  rw [trimZ_snoc, if_pos (UInt8.toNat_inj.1 h48), ext_data, List.drop_zero]
theorem trim_stop (t : ByteArray) (h : 0 < t.size) (h48 : t[t.size - 1].toNat ≠ 48) : trimZ t.data.toList = t.data.toList := by
  conv => lhs; rw [last_at t h]
  rw [trimZ_snoc, if_neg (fun e => h48 (by rw [e]; rfl)), ← last_at t h]
theorem trim_none (t : ByteArray) (h : t.size = 0) : trimZ t.data.toList = t.data.toList := by
  have : t.data.toList = [] := List.length_eq_zero_iff.1 (by rw [size_len]; exact h)
  rw [this]; rfl
theorem ret_string {a b : ByteArray} (h : a = b) : Ending.returned (.string a) = .returned (.string b) := by rw [h]

set_option maxHeartbeats 400000 in
theorem rtrim_any (s : ByteArray) (w : World) (hs : s.size ≤ 9223372036854775807) :
    Calls Tryz.prog 108 #[.string s] w fun e w' => e = .returned (.string (bs (trimZ s.data.toList))) ∧ w = w' := by
  go_enter Tryz.func108, Tryz.ntmps108
  go_wp2
  go_loop [0] (fun v => ∃ t : ByteArray, v = .string t ∧ t.size ≤ s.size ∧ trimZ t.data.toList = trimZ s.data.toList) (fun v => match v with | .string t => t.size | _ => 0)
  case atStart => exact ⟨s, rfl, Nat.le_refl _, rfl⟩
  case round =>
    obtain ⟨t, rfl, ht, hrel⟩ := hrel
    have HR := Lib.hid hrel
    clear hrel
    by_cases h0 : 0 < t.size
    · by_cases h48 : t[t.size - 1].toNat = 48
      · have H1 := Lib.hid (trim_step t h0 h48)
        have h2 : ((t[t.size - 1].toNat : Int) == 48) = true := by simp; omega
        have H3 := Lib.hid h48
        clear h48
        go_wp2
        go_round
        case rel => exact ⟨_, rfl, by simp [ByteArray.size_extract]; omega, by rw [H1.out, HR.out]⟩
        case measure => simp [ByteArray.size_extract]; omega
      · have H1 := Lib.hid (trim_stop t h0 h48)
        have h2 : ((t[t.size - 1].toNat : Int) == 48) = false := by simp; omega
        clear h48
        go_wp2
        go_ret
        exact ⟨ret_string (by rw [← HR.out, H1.out, bs_self]), rfl⟩
    · have H1 := Lib.hid (trim_none t (by omega))
      go_wp2
      go_ret
      exact ⟨ret_string (by rw [← HR.out, H1.out, bs_self]), rfl⟩

theorem first_at (t : ByteArray) (h : 1 < t.size) : ∃ d r, t.data.toList = t[0] :: d :: r ∧ (t.extract 1 t.size).data.toList = d :: r := by
  have hl := size_len t
  have e : t[0] = t.data.toList.getD 0 0 := by
    have h0 : 0 < t.data.toList.length := by rw [hl]; omega
    have : t[0] = t.data.toList[0] := rfl
    rw [this, List.getD_eq_getElem?_getD, List.getElem?_eq_getElem h0]
    rfl
  rw [ext_data, List.take_of_length_le (by rw [hl]; exact Nat.le_refl _)]
  rw [e]
  cases hh : t.data.toList with
  | nil => rw [hh] at hl; simp at hl; omega
  | cons a l =>
    cases l with
    | nil => rw [hh] at hl; simp at hl; omega
    | cons d r => exact ⟨d, r, by simp, rfl⟩
theorem lead_step (t : ByteArray) (h : 1 < t.size) (h48 : t[0].toNat = 48) : leadD (t.extract 1 t.size).data.toList = leadD t.data.toList := by
  obtain ⟨d, r, h1, h2⟩ := first_at t h
  rw [h1, h2]
  simp [leadD, UInt8.toNat_inj.1 (show t[0].toNat = (48 : UInt8).toNat from h48)]
theorem lead_stop (t : ByteArray) (h : 1 < t.size) (h48 : t[0].toNat ≠ 48) : leadD t.data.toList = t.data.toList := by
  obtain ⟨d, r, h1, h2⟩ := first_at t h
  rw [h1]
  unfold leadD
  rw [if_neg (fun e => h48 (by rw [e]; rfl))]
theorem lead_short (t : ByteArray) (h : ¬ 1 < t.size) : leadD t.data.toList = t.data.toList := by
  have hl := size_len t
  cases hh : t.data.toList with
  | nil => rfl
  | cons a l =>
    cases l with
    | nil => rfl
    | cons d r => rw [hh] at hl; simp at hl; omega

end Go.Proofs.YtadhblppeaamlaaGreatDoor
/- Walks: texts of numbers; value; the parts of a number by the program. -/
namespace Go.Proofs.YtadhblppeaamlaaGreatDoor
open Go.RowKit
attribute [local go_sem] Ext.cell Ext.frozen

theorem text_eq (n : Bool) (w f : ByteArray) : ((if n && !(allZ w.data.toList && allZ f.data.toList) then (⟨#[45]⟩ : ByteArray) else ⟨#[]⟩) ++ (w ++ (if f.data.toList.isEmpty then (⟨#[]⟩ : ByteArray) else ⟨#[46]⟩ ++ f))) = bs (textD n w.data.toList f.data.toList) := by
  apply ba_eq
  rw [app_data, app_data, bs_data]
  unfold textD
  rw [List.append_assoc]
  congr 1
  · split <;> rfl
  · congr 1
    split
    · rfl
    · rw [app_data]; rfl

set_option maxHeartbeats 400000 in
theorem value_any (s : ByteArray) (w : World) (hs : s.size ≤ 17) (hd : allD s.data.toList = true) :
    Calls Tryz.prog 104 #[.string s] w fun e w' => e = .returned (.int .i64 (valD s.data.toList : Nat)) ∧ Below w.heap.size w w' := by
  have HA : Hid (∀ w, Calls Tryz.prog 119 #[.string (⟨#[48]⟩ ++ s)] w fun e w' => e = .returned (.tuple #[.int .i64 (valD s.data.toList : Nat), .nilIface]) ∧ Below w.heap.size w w') := fun w => by
    have hsz : (⟨#[48]⟩ ++ s : ByteArray).size ≤ 18 := by
      rw [ByteArray.size_append]
      have : (⟨#[48]⟩ : ByteArray).size = 1 := rfl
      omega
    have hat : Lib.atoi (⟨#[48]⟩ ++ s : ByteArray).data.toList = some (valD s.data.toList : Int) := by
      rw [app_data]
      exact atoi_val _ hd
    refine (Tryz.strconv_Atoi _ _ hsz hat w).mono fun e w' ⟨he, t, hw⟩ => ⟨he, ?_⟩
    rw [hw]
    exact bytes_below w _ t
  generalize valD s.data.toList = v at *
  clear hd
  go_enter Tryz.func104, Tryz.ntmps104
  go_wp2_with fail
  refine (Calls.toExt (HA.out _)).mono ?_
  rintro e _ ⟨rfl, x1, rfl⟩
  go_wp2_with fail
  go_ret
  exact ⟨rfl, (Bel.refl w).ext _⟩

end Go.Proofs.YtadhblppeaamlaaGreatDoor
/- Walks: CutPrefix, Cut, and the parts of a number by the program. -/
namespace Go.Proofs.YtadhblppeaamlaaGreatDoor
open Go.RowKit
attribute [local go_sem] Ext.cell Ext.frozen
attribute [local go_sem ↓] Go.wp_at_zero Go.wp_at_succ

theorem prefix_neg (l : List UInt8) : Lib.hasPrefix l [45] = dNeg l := by
  cases l with
  | nil => rfl
  | cons c l =>
    show ((45 : UInt8) == c && true) = (c == 45)
    rw [Bool.and_true, Bool.eq_iff_iff, beq_iff_eq, beq_iff_eq]
    exact eq_comm

theorem rest_size (s : ByteArray) : (bs (dRest s.data.toList)).size ≤ s.size := by
  rw [bs_size]
  unfold dRest
  split
  · rw [List.length_tail, size_len]; omega
  · rw [size_len]; exact Nat.le_refl _
theorem dNeg_size {s : ByteArray} (h : dNeg s.data.toList = true) : 1 ≤ s.size := by
  rw [← size_len]
  cases hh : s.data.toList with
  | nil => rw [hh] at h; simp [dNeg] at h
  | cons c l => simp

set_option maxHeartbeats 400000 in
theorem cutPrefix_any (s : ByteArray) (w : World) (hs : s.size ≤ 9223372036854775807) :
    Calls Tryz.prog 89 #[.string s, .string ⟨#[45]⟩] w fun e w' => e = .returned (.tuple #[.string (bs (dRest s.data.toList)), .bool (dNeg s.data.toList)]) ∧ w = w' := by
  have HP : Hid (∀ w, Calls Tryz.prog 110 #[.string s, .string ⟨#[45]⟩] w fun e w' => e = .returned (.bool (dNeg s.data.toList)) ∧ w = w') := fun w =>
    (Tryz.stringslite_HasPrefix s ⟨#[45]⟩ w).mono fun e w' ⟨he, hw⟩ => ⟨by rw [he]; exact ret_bool (prefix_neg _), hw.symm⟩
  have HR : Hid (dRest s.data.toList = if dNeg s.data.toList then s.data.toList.tail else s.data.toList) := rfl
  have HN : Hid (dNeg s.data.toList = true → 1 ≤ s.size) := dNeg_size
  have HX : Hid (s.extract 1 s.size = bs s.data.toList.tail) := by
    apply ba_eq
    rw [ext_data, List.take_of_length_le (by rw [size_len]; exact Nat.le_refl _), bs_data, List.drop_one]
  generalize dNeg s.data.toList = n at *
  generalize dRest s.data.toList = r at *
  go_enter Tryz.func89, Tryz.ntmps89
  cases n with
  | false =>
    go_wp2_with (first | (go_at_call 110; refine (HP.out _).mono ?_; rintro e w' ⟨rfl, rfl⟩) | go_in)
    go_ret2
    exact ⟨by rw [HR.out]; rfl, rfl⟩
  | true =>
    have h1 := HN.out rfl
    go_wp2_with (first | (go_at_call 110; refine (HP.out _).mono ?_; rintro e w' ⟨rfl, rfl⟩) | go_in)
    go_ret2
    exact ⟨by rw [HR.out, HX.out]; rfl, rfl⟩

/-- how many bytes stand before the point -/
def tw (l : List UInt8) : Nat := (l.takeWhile (· != 46)).length
theorem tw_le (l : List UInt8) : tw l ≤ l.length := (List.takeWhile_sublist _).length_le
theorem index_tw (l : List UInt8) : Lib.indexByte l 46 = if tw l < l.length then (tw l : Int) else -1 := by
  induction l with
  | nil => rfl
  | cons c l ih =>
    unfold tw
    simp only [Lib.indexByte, List.takeWhile_cons, List.length_cons]
    by_cases h : c = 46
    · subst h; simp
    · have e : (c == 46) = false := by simpa using h
      have e2 : (c != 46) = true := by simpa using h
      rw [e, e2, ih]
      simp only [Bool.false_eq_true, if_false, if_true, List.length_cons]
      show (if (if tw l < l.length then (tw l : Int) else -1) == -1 then (-1 : Int) else (if tw l < l.length then (tw l : Int) else -1) + 1) = if tw l + 1 < l.length + 1 then ((tw l + 1 : Nat) : Int) else -1
      by_cases h2 : tw l < l.length
      · have h3 : ((tw l : Int) == -1) = false := by rw [beq_eq_false_iff_ne]; omega
        rw [if_pos h2, h3, if_neg (by simp), if_pos (show tw l + 1 < l.length + 1 by omega)]
        omega
      · rw [if_neg h2, if_neg (show ¬ tw l + 1 < l.length + 1 by omega)]
        rfl
theorem take_tw (l : List UInt8) : l.take (tw l) = l.takeWhile (· != 46) := by
  induction l with
  | nil => rfl
  | cons c l ih =>
    unfold tw at ih ⊢
    by_cases h : c = 46
    · subst h; rfl
    · have e2 : (c != 46) = true := by simpa using h
      simp only [List.takeWhile_cons, e2, if_true, List.length_cons, List.take_succ_cons, ih]

/-- what Cut at the point returns -/
def CutPost (r : ByteArray) (e : Ending) : Prop :=
  e = .returned (.tuple #[.string (bs (r.data.toList.takeWhile (· != 46))), .string (bs (r.data.toList.drop (tw r.data.toList + 1))), .bool (decide (tw r.data.toList < r.data.toList.length))])

set_option maxHeartbeats 1000000 in
theorem scut_any (r : ByteArray) (w : World) (hs : r.size ≤ 4611686018427387904) :
    Calls Tryz.prog 100 #[.string r, .string ⟨#[46]⟩] w fun e w' => CutPost r e ∧ Below w.heap.size w w' := by
  have hi := fun w => Tryz.stringslite_Index_one r 46 w
  rw [index_tw, size_len] at hi
  have H1 : Hid (r.extract 0 (tw r.data.toList) = bs (r.data.toList.takeWhile (· != 46))) := by
    apply ba_eq
    rw [ext_data, List.drop_zero, bs_data, take_tw]
  have H2 : Hid (r.extract (tw r.data.toList + 1) r.size = bs (r.data.toList.drop (tw r.data.toList + 1))) := by
    apply ba_eq
    rw [ext_data, List.take_of_length_le (by rw [size_len]; exact Nat.le_refl _), bs_data]
  have H3 : Hid (tw r.data.toList ≤ r.size) := by have := tw_le r.data.toList; rwa [size_len] at this
  have H4 : Hid (CutPost r = fun e => e = .returned (.tuple #[.string (bs (r.data.toList.takeWhile (· != 46))), .string (bs (r.data.toList.drop (tw r.data.toList + 1))), .bool (decide (tw r.data.toList < r.size))])) := by
    unfold Hid CutPost; rw [size_len]
  have H5 : Hid (tw r.data.toList = r.size → bs (r.data.toList.takeWhile (· != 46)) = r ∧ bs (r.data.toList.drop (tw r.data.toList + 1)) = (⟨#[]⟩ : ByteArray)) := fun h => by
    constructor
    · rw [← take_tw, List.take_of_length_le (by rw [size_len]; omega)]; rfl
    · rw [List.drop_of_length_le (by rw [size_len]; omega)]; rfl
  rw [H4.out]
  generalize tw r.data.toList = k at *
  generalize bs (r.data.toList.takeWhile (· != 46)) = a at *
  generalize bs (r.data.toList.drop (k + 1)) = b at *
  have h3 := H3.out
  by_cases hk : k < r.size
  · have HI : Hid (∀ w, Calls Tryz.prog 111 #[.string r, .string ⟨#[46]⟩] w fun e w' => e = .returned (.int .i64 (k : Nat)) ∧ w = w') := fun w =>
      (hi w).mono fun e w' ⟨he, hw⟩ => ⟨by rw [he, if_pos hk], hw.symm⟩
    clear hi
    have H6 := Lib.hid hk
    go_enter Tryz.func100, Tryz.ntmps100
    go_wp2_with (first | (go_at_call 111; refine (HI.out _).mono ?_; rintro e w' ⟨rfl, rfl⟩) | go_in)
    go_quiet (fail)
    go_wp2_with fail
    go_ret3
    exact ⟨by rw [H1.out, H2.out, decide_eq_true H6.out]; rfl, (Bel.refl w).drewN _⟩
  · have HI : Hid (∀ w, Calls Tryz.prog 111 #[.string r, .string ⟨#[46]⟩] w fun e w' => e = .returned (.int .i64 (-1)) ∧ w = w') := fun w =>
      (hi w).mono fun e w' ⟨he, hw⟩ => ⟨by rw [he, if_neg hk], hw.symm⟩
    obtain ⟨H7, H8⟩ := H5.out (by omega)
    have H7 := Lib.hid H7
    have H8 := Lib.hid H8
    have H6 := Lib.hid hk
    clear hi hk
    go_enter Tryz.func100, Tryz.ntmps100
    go_wp2_with (first | (go_at_call 111; refine (HI.out _).mono ?_; rintro e w' ⟨rfl, rfl⟩) | go_in)
    go_ret3
    exact ⟨by rw [H7.out, H8.out, decide_eq_false H6.out]; rfl, Below.refl _ _⟩

set_option maxHeartbeats 400000 in
theorem cut_any (r : ByteArray) (w : World) (hs : r.size ≤ 4611686018427387904) :
    Calls Tryz.prog 90 #[.string r, .string ⟨#[46]⟩] w fun e w' => CutPost r e ∧ Below w.heap.size w w' := by
  have HC : Hid (∀ w, Calls Tryz.prog 100 #[.string r, .string ⟨#[46]⟩] w fun e w' => e = .returned (.tuple #[.string (bs (r.data.toList.takeWhile (· != 46))), .string (bs (r.data.toList.drop (tw r.data.toList + 1))), .bool (decide (tw r.data.toList < r.data.toList.length))]) ∧ Below w.heap.size w w') :=
    fun w => scut_any r w hs
  have HE : Hid (∀ e, e = .returned (.tuple #[.string (bs (r.data.toList.takeWhile (· != 46))), .string (bs (r.data.toList.drop (tw r.data.toList + 1))), .bool (decide (tw r.data.toList < r.data.toList.length))]) → CutPost r e) := fun _ h => h
  generalize bs (r.data.toList.takeWhile (· != 46)) = a at *
  generalize bs (r.data.toList.drop (tw r.data.toList + 1)) = b at *
  generalize decide (tw r.data.toList < r.data.toList.length) = p at *
  go_enter Tryz.func90, Tryz.ntmps90
  go_wp2_with fail
  refine (Calls.toExt (HC.out _)).mono ?_
  rintro e _ ⟨rfl, x, rfl⟩
  go_wp2_with fail
  go_ret3
  exact ⟨HE.out _ rfl, (Bel.refl w).ext _⟩
end Go.Proofs.YtadhblppeaamlaaGreatDoor
/- Plain: when the parts of a number are proper. -/
namespace Go.Proofs.YtadhblppeaamlaaGreatDoor
theorem okW_short {a : ByteArray} (h : a.size < 1) : okW a.data.toList = false := by
  unfold okW; rw [size_len]; simp; omega
theorem okW_long {a : ByteArray} (h : 15 < a.size) : okW a.data.toList = false := by
  unfold okW; rw [size_len]; simp; omega
theorem okW_digits {a : ByteArray} (h : allD a.data.toList = false) : okW a.data.toList = false := by
  unfold okW; rw [h]; simp
theorem head_at {a : ByteArray} (h : 0 < a.size) : a.data.toList.head? = some a[0] := by
  have h0 : 0 < a.data.toList.length := by rw [size_len]; exact h
  have : a[0] = a.data.toList[0] := rfl
  rw [this, List.head?_eq_getElem?, List.getElem?_eq_getElem h0]
theorem okW_lead {a : ByteArray} (h : 1 < a.size) (h2 : a[0].toNat = 48) : okW a.data.toList = false := by
  unfold okW
  rw [head_at (by omega), size_len, UInt8.toNat_inj.1 (show a[0].toNat = (48 : UInt8).toNat from h2)]
  simp
  omega
theorem okW_one {a : ByteArray} (h : a.size = 1) (hd : allD a.data.toList = true) : okW a.data.toList = true := by
  unfold okW
  rw [size_len, h, hd]; simp
theorem okW_more {a : ByteArray} (h : 1 < a.size) (h15 : a.size ≤ 15) (h2 : a[0].toNat ≠ 48) (hd : allD a.data.toList = true) : okW a.data.toList = true := by
  unfold okW
  rw [size_len, hd, head_at (by omega)]
  have : (some a[0] == some (48 : UInt8)) = false := by
    rw [beq_eq_false_iff_ne]
    intro e
    injection e with e
    exact h2 (by rw [e]; rfl)
  rw [this]
  simp
  omega

theorem okF_none {f : ByteArray} (h : f.size = 0) : okF true f.data.toList = false := by
  have : f.data.toList = [] := List.length_eq_zero_iff.1 (by rw [size_len]; exact h)
  rw [this]; rfl
theorem okF_long {p : Bool} {f : ByteArray} (h : 6 < f.size) : okF p f.data.toList = false := by
  unfold okF; rw [size_len]; simp; omega
theorem okF_digits {p : Bool} {f : ByteArray} (h : allD f.data.toList = false) : okF p f.data.toList = false := by
  unfold okF; rw [h]; simp
theorem okF_true {f : ByteArray} (h : ¬ f.size = 0) (h6 : ¬ 6 < f.size) (hd : allD f.data.toList = true) : okF true f.data.toList = true := by
  unfold okF
  have : f.data.toList.isEmpty = false := by
    cases hh : f.data.toList with
    | nil => exact absurd (by rw [← size_len, hh]; rfl) h
    | cons c l => rfl
  rw [size_len, hd, this]; simp; omega
theorem okF_false {f : ByteArray} (h6 : ¬ 6 < f.size) (hd : allD f.data.toList = true) : okF false f.data.toList = true := by
  unfold okF; rw [size_len, hd]; simp; omega

end Go.Proofs.YtadhblppeaamlaaGreatDoor
