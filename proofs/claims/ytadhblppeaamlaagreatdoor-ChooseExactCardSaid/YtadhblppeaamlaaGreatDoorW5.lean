/- Walks: CutPrefix, Cut, and the parts of a number by the program. -/
import Derived.Test.YtadhblppeaamlaaGreatDoorW4
import Derived.Deep.RegionHeld3
import Derived.Deep.DrawnRows
namespace Go.Proofs.YtadhblppeaamlaaGreatDoor
open Go.RowKit
attribute [local go_sem] Ext.cell Ext.frozen
attribute [local go_sem ↓] Go.wp_at_zero Go.wp_at_succ

theorem prefix_neg (l : List UInt8) : Lib.hasPrefix l [45] = dNeg l := by
  cases l with
  | nil => rfl
  | cons c l =>
    show ((45 : UInt8) == c && true) = (c == 45)
    rw [Bool.and_true, Bool.eq_iff_iff, beq_iff_eq, beq_iff_eq]
    exact eq_comm

theorem rest_size (s : ByteArray) : (bs (dRest s.data.toList)).size ≤ s.size := by
  rw [bs_size]
  unfold dRest
  split
  · rw [List.length_tail, size_len]; omega
  · rw [size_len]; exact Nat.le_refl _
theorem dNeg_size {s : ByteArray} (h : dNeg s.data.toList = true) : 1 ≤ s.size := by
  rw [← size_len]
  cases hh : s.data.toList with
  | nil => rw [hh] at h; simp [dNeg] at h
  | cons c l => simp

set_option maxHeartbeats 400000 in
theorem cutPrefix_any (s : ByteArray) (w : World) (hs : s.size ≤ 9223372036854775807) :
    Calls Tryz.prog 89 #[.string s, .string ⟨#[45]⟩] w fun e w' => e = .returned (.tuple #[.string (bs (dRest s.data.toList)), .bool (dNeg s.data.toList)]) ∧ w = w' := by
  have HP : Hid (∀ w, Calls Tryz.prog 110 #[.string s, .string ⟨#[45]⟩] w fun e w' => e = .returned (.bool (dNeg s.data.toList)) ∧ w = w') := fun w =>
    (Tryz.stringslite_HasPrefix s ⟨#[45]⟩ w).mono fun e w' ⟨he, hw⟩ => ⟨by rw [he]; exact ret_bool (prefix_neg _), hw.symm⟩
  have HR : Hid (dRest s.data.toList = if dNeg s.data.toList then s.data.toList.tail else s.data.toList) := rfl
  have HN : Hid (dNeg s.data.toList = true → 1 ≤ s.size) := dNeg_size
  have HX : Hid (s.extract 1 s.size = bs s.data.toList.tail) := by
    apply ba_eq
    rw [ext_data, List.take_of_length_le (by rw [size_len]; exact Nat.le_refl _), bs_data, List.drop_one]
  generalize dNeg s.data.toList = n at *
  generalize dRest s.data.toList = r at *
  go_enter Tryz.func89, Tryz.ntmps89
  cases n with
  | false =>
    go_wp2_with (first | (go_at_call 110; refine (HP.out _).mono ?_; rintro e w' ⟨rfl, rfl⟩) | go_in)
    go_ret2
    exact ⟨by rw [HR.out]; rfl, rfl⟩
  | true =>
    have h1 := HN.out rfl
    go_wp2_with (first | (go_at_call 110; refine (HP.out _).mono ?_; rintro e w' ⟨rfl, rfl⟩) | go_in)
    go_ret2
    exact ⟨by rw [HR.out, HX.out]; rfl, rfl⟩

/-- how many bytes stand before the point -/
def tw (l : List UInt8) : Nat := (l.takeWhile (· != 46)).length
theorem tw_le (l : List UInt8) : tw l ≤ l.length := (List.takeWhile_sublist _).length_le
theorem index_tw (l : List UInt8) : Lib.indexByte l 46 = if tw l < l.length then (tw l : Int) else -1 := by
  induction l with
  | nil => rfl
  | cons c l ih =>
    unfold tw
    simp only [Lib.indexByte, List.takeWhile_cons, List.length_cons]
    by_cases h : c = 46
    · subst h; simp
    · have e : (c == 46) = false := by simpa using h
      have e2 : (c != 46) = true := by simpa using h
      rw [e, e2, ih]
      simp only [Bool.false_eq_true, if_false, if_true, List.length_cons]
      show (if (if tw l < l.length then (tw l : Int) else -1) == -1 then (-1 : Int) else (if tw l < l.length then (tw l : Int) else -1) + 1) = if tw l + 1 < l.length + 1 then ((tw l + 1 : Nat) : Int) else -1
      by_cases h2 : tw l < l.length
      · have h3 : ((tw l : Int) == -1) = false := by rw [beq_eq_false_iff_ne]; omega
        rw [if_pos h2, h3, if_neg (by simp), if_pos (show tw l + 1 < l.length + 1 by omega)]
        omega
      · rw [if_neg h2, if_neg (show ¬ tw l + 1 < l.length + 1 by omega)]
        rfl
theorem take_tw (l : List UInt8) : l.take (tw l) = l.takeWhile (· != 46) := by
  induction l with
  | nil => rfl
  | cons c l ih =>
    unfold tw at ih ⊢
    by_cases h : c = 46
    · subst h; rfl
    · have e2 : (c != 46) = true := by simpa using h
      simp only [List.takeWhile_cons, e2, if_true, List.length_cons, List.take_succ_cons, ih]

/-- what Cut at the point returns -/
def CutPost (r : ByteArray) (e : Ending) : Prop :=
  e = .returned (.tuple #[.string (bs (r.data.toList.takeWhile (· != 46))), .string (bs (r.data.toList.drop (tw r.data.toList + 1))), .bool (decide (tw r.data.toList < r.data.toList.length))])

set_option maxHeartbeats 1000000 in
theorem scut_any (r : ByteArray) (w : World) (hs : r.size ≤ 4611686018427387904) :
    Calls Tryz.prog 100 #[.string r, .string ⟨#[46]⟩] w fun e w' => CutPost r e ∧ Below w.heap.size w w' := by
  have hi := fun w => Tryz.stringslite_Index_one r 46 w
  rw [index_tw, size_len] at hi
  have H1 : Hid (r.extract 0 (tw r.data.toList) = bs (r.data.toList.takeWhile (· != 46))) := by
    apply ba_eq
    rw [ext_data, List.drop_zero, bs_data, take_tw]
  have H2 : Hid (r.extract (tw r.data.toList + 1) r.size = bs (r.data.toList.drop (tw r.data.toList + 1))) := by
    apply ba_eq
    rw [ext_data, List.take_of_length_le (by rw [size_len]; exact Nat.le_refl _), bs_data]
  have H3 : Hid (tw r.data.toList ≤ r.size) := by have := tw_le r.data.toList; rwa [size_len] at this
  have H4 : Hid (CutPost r = fun e => e = .returned (.tuple #[.string (bs (r.data.toList.takeWhile (· != 46))), .string (bs (r.data.toList.drop (tw r.data.toList + 1))), .bool (decide (tw r.data.toList < r.size))])) := by
    unfold Hid CutPost; rw [size_len]
  have H5 : Hid (tw r.data.toList = r.size → bs (r.data.toList.takeWhile (· != 46)) = r ∧ bs (r.data.toList.drop (tw r.data.toList + 1)) = (⟨#[]⟩ : ByteArray)) := fun h => by
    constructor
    · rw [← take_tw, List.take_of_length_le (by rw [size_len]; omega)]; rfl
    · rw [List.drop_of_length_le (by rw [size_len]; omega)]; rfl
  rw [H4.out]
  generalize tw r.data.toList = k at *
  generalize bs (r.data.toList.takeWhile (· != 46)) = a at *
  generalize bs (r.data.toList.drop (k + 1)) = b at *
  have h3 := H3.out
  by_cases hk : k < r.size
  · have HI : Hid (∀ w, Calls Tryz.prog 111 #[.string r, .string ⟨#[46]⟩] w fun e w' => e = .returned (.int .i64 (k : Nat)) ∧ w = w') := fun w =>
      (hi w).mono fun e w' ⟨he, hw⟩ => ⟨by rw [he, if_pos hk], hw.symm⟩
    clear hi
    have H6 := Lib.hid hk
    go_enter Tryz.func100, Tryz.ntmps100
    go_wp2_with (first | (go_at_call 111; refine (HI.out _).mono ?_; rintro e w' ⟨rfl, rfl⟩) | go_in)
    go_quiet (fail)
    go_wp2_with fail
    go_ret3
    exact ⟨by rw [H1.out, H2.out, decide_eq_true H6.out]; rfl, (Bel.refl w).drewN _⟩
  · have HI : Hid (∀ w, Calls Tryz.prog 111 #[.string r, .string ⟨#[46]⟩] w fun e w' => e = .returned (.int .i64 (-1)) ∧ w = w') := fun w =>
      (hi w).mono fun e w' ⟨he, hw⟩ => ⟨by rw [he, if_neg hk], hw.symm⟩
    obtain ⟨H7, H8⟩ := H5.out (by omega)
    have H7 := Lib.hid H7
    have H8 := Lib.hid H8
    have H6 := Lib.hid hk
    clear hi hk
    go_enter Tryz.func100, Tryz.ntmps100
    go_wp2_with (first | (go_at_call 111; refine (HI.out _).mono ?_; rintro e w' ⟨rfl, rfl⟩) | go_in)
    go_ret3
    exact ⟨by rw [H7.out, H8.out, decide_eq_false H6.out]; rfl, Below.refl _ _⟩

set_option maxHeartbeats 400000 in
theorem cut_any (r : ByteArray) (w : World) (hs : r.size ≤ 4611686018427387904) :
    Calls Tryz.prog 90 #[.string r, .string ⟨#[46]⟩] w fun e w' => CutPost r e ∧ Below w.heap.size w w' := by
  have HC : Hid (∀ w, Calls Tryz.prog 100 #[.string r, .string ⟨#[46]⟩] w fun e w' => e = .returned (.tuple #[.string (bs (r.data.toList.takeWhile (· != 46))), .string (bs (r.data.toList.drop (tw r.data.toList + 1))), .bool (decide (tw r.data.toList < r.data.toList.length))]) ∧ Below w.heap.size w w') :=
    fun w => scut_any r w hs
  have HE : Hid (∀ e, e = .returned (.tuple #[.string (bs (r.data.toList.takeWhile (· != 46))), .string (bs (r.data.toList.drop (tw r.data.toList + 1))), .bool (decide (tw r.data.toList < r.data.toList.length))]) → CutPost r e) := fun _ h => h
  generalize bs (r.data.toList.takeWhile (· != 46)) = a at *
  generalize bs (r.data.toList.drop (tw r.data.toList + 1)) = b at *
  generalize decide (tw r.data.toList < r.data.toList.length) = p at *
  go_enter Tryz.func90, Tryz.ntmps90
  go_wp2_with fail
  refine (Calls.toExt (HC.out _)).mono ?_
  rintro e _ ⟨rfl, x, rfl⟩
  go_wp2_with fail
  go_ret3
  exact ⟨HE.out _ rfl, (Bel.refl w).ext _⟩
end Go.Proofs.YtadhblppeaamlaaGreatDoor
