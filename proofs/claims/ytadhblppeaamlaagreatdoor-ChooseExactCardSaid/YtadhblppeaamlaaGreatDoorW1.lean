/- Walks: the leaves of the decimal numbers. -/
import Derived.Test.YtadhblppeaamlaaGreatDoorK
import Derived.Test.YtadhblppeaamlaaGreatDoorP1
import Derived.Test.YtadhblppeaamlaaGreatDoorShelf
import Derived.Shelf.Strings.SlTrimAscii
namespace Go.Proofs.YtadhblppeaamlaaGreatDoor
open Go.RowKit
attribute [local go_sem] Ext.cell Ext.frozen

/-- a string's length is a number that an int holds -/
theorem trim0 (s : ByteArray) (w : World) (hs : s.size ≤ 9223372036854775807) :
    Calls Tryz.prog 101 #[.string s, .string ⟨#[48]⟩] w fun e w' => e = .returned (.string (bs (Lib.trimS s.data.toList [48]))) ∧ Below w.heap.size w w' :=
  (Tryz.strings_Trim_one s 48 (by decide) w hs).mono fun e w' ⟨he, hw⟩ => ⟨by rw [he, Lib.trimS_one]; rfl, by
    rcases hw with rfl | rfl
    · exact Below.refl _ _
    · exact below_drew1 _⟩
theorem trimD (s : ByteArray) (w : World) (hs : s.size ≤ 9223372036854775807) :
    Calls Tryz.prog 101 #[.string s, .string ⟨#[48, 49, 50, 51, 52, 53, 54, 55, 56, 57]⟩] w fun e w' => e = .returned (.string (bs (Lib.trimS s.data.toList [48, 49, 50, 51, 52, 53, 54, 55, 56, 57]))) ∧ Below w.heap.size w w' :=
  (Any.strings_Trim_laid Tryz.lays160 (by kernel_rfl) s ⟨#[48, 49, 50, 51, 52, 53, 54, 55, 56, 57]⟩ w hs (by decide) (ascii_of_all (by decide))).mono fun e w' ⟨he, hw⟩ => ⟨he, hw⟩
theorem trimR0 (s : ByteArray) (w : World) (hs : s.size ≤ 9223372036854775807) :
    Calls Tryz.prog 103 #[.string s, .string ⟨#[48]⟩] w fun e w' => e = .returned (.string (bs (trimZ s.data.toList))) ∧ w = w' :=
  (Tryz.strings_TrimRight_one s 48 (by decide) w hs).mono fun e w' ⟨he, hw⟩ => ⟨by rw [he]; unfold trimZ; rw [Lib.trimRightS_one]; rfl, hw.symm⟩
theorem isEmpty_iff {l : List UInt8} : l.isEmpty = decide (l = []) := by cases l <;> rfl

set_option maxHeartbeats 400000 in
theorem digits_any (s : ByteArray) (w : World) (hs : s.size ≤ 9223372036854775807) :
    Calls Tryz.prog 91 #[.string s] w fun e w' => e = .returned (.bool (allD s.data.toList)) ∧ Below w.heap.size w w' := by
  have HE : Hid ((Lib.trimS s.data.toList [48, 49, 50, 51, 52, 53, 54, 55, 56, 57]).isEmpty = allD s.data.toList) := by
    rw [Hid, isEmpty_iff, Bool.eq_iff_iff, decide_eq_true_iff, trimS_nil]
    simp only [digit_mem]
    rfl
  have HT := Lib.hid (fun w => trimD s w hs)
  generalize Lib.trimS s.data.toList [48, 49, 50, 51, 52, 53, 54, 55, 56, 57] = l at *
  go_enter Tryz.func91, Tryz.ntmps91
  go_wp2_with fail
  refine (HT.out _).mono ?_
  rintro e w1 ⟨rfl, hb⟩
  have HB := Lib.hid hb
  clear hb
  go_wp2_with fail
  go_ret
  exact ⟨ret_bool (by rw [← HE.out]; simp [bs_toList]), HB.out⟩

set_option maxHeartbeats 400000 in
theorem zero_any (s : ByteArray) (w : World) (hs : s.size ≤ 9223372036854775807) :
    Calls Tryz.prog 102 #[.string s] w fun e w' => e = .returned (.bool (allZ s.data.toList)) ∧ Below w.heap.size w w' := by
  have HE : Hid ((Lib.trimS s.data.toList [48]).isEmpty = allZ s.data.toList) := by
    rw [Hid, isEmpty_iff, Bool.eq_iff_iff, decide_eq_true_iff, trimS_nil, allZ, List.all_eq_true, List.all_eq_true]
    simp
  have HT := Lib.hid (fun w => trim0 s w hs)
  generalize Lib.trimS s.data.toList [48] = l at *
  go_enter Tryz.func102, Tryz.ntmps102
  go_wp2_with fail
  refine (HT.out _).mono ?_
  rintro e w1 ⟨rfl, hb⟩
  have HB := Lib.hid hb
  clear hb
  go_wp2_with fail
  go_ret
  exact ⟨ret_bool (by rw [← HE.out]; simp [bs_toList]), HB.out⟩

set_option maxHeartbeats 400000 in
theorem numZero_any (n : Bool) (a b : ByteArray) (w : World) (ha : a.size ≤ 9223372036854775807) (hb : b.size ≤ 9223372036854775807) :
    Calls Tryz.prog 92 #[.agg #[.bool n, .string a, .string b]] w fun e w' => e = .returned (.bool (allZ a.data.toList && allZ b.data.toList)) ∧ Below w.heap.size w w' := by
  have HA := Lib.hid (fun w => zero_any a w ha)
  have HB := Lib.hid (fun w => zero_any b w hb)
  generalize allZ a.data.toList = za at *
  generalize allZ b.data.toList = zb at *
  go_enter Tryz.func92, Tryz.ntmps92
  cases za
  · go_wp2_with fail
    refine (Calls.toExt (HA.out _)).mono ?_
    rintro e _ ⟨rfl, x1, rfl⟩
    go_wp2_with fail
    go_ret
    exact ⟨rfl, ((Bel.refl w).alloc _).ext _⟩
  · go_wp2_with fail
    refine (Calls.toExt (HA.out _)).mono ?_
    rintro e _ ⟨rfl, x1, rfl⟩
    have hz := x1.2.size
    simp at hz
    go_wp2_with fail
    refine (Calls.toExt (HB.out _)).mono ?_
    rintro e _ ⟨rfl, x2, rfl⟩
    go_wp2_with fail
    go_ret
    exact ⟨rfl, (((Bel.refl w).alloc _).ext _).ext _⟩
end Go.Proofs.YtadhblppeaamlaaGreatDoor
