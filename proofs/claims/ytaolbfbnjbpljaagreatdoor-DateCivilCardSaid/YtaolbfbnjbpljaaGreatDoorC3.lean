/- Walks: Parse, by the program. -/
import Derived.Test.YtaolbfbnjbpljaaGreatDoorC2
import Derived.Test.YtaolbfbnjbpljaaGreatDoorE2
import Derived.Test.YtaolbfbnjbpljaaGreatDoorShelf
import Derived.Shelf.Strings.SlTrimAscii
namespace Go.Proofs.YtaolbfbnjbpljaaGreatDoor
open Go.RowKit
attribute [local go_sem] Ext.cell Ext.frozen
attribute [local go_sem ↓] Go.wp_at_zero Go.wp_at_succ

theorem trimD (s : ByteArray) (w : World) (hs : s.size ≤ 9223372036854775807) :
    Calls Tryz.prog 56 #[.string s, .string ⟨#[48, 49, 50, 51, 52, 53, 54, 55, 56, 57]⟩] w fun e w' => e = .returned (.string (bs (Lib.trimS s.data.toList [48, 49, 50, 51, 52, 53, 54, 55, 56, 57]))) ∧ Below w.heap.size w w' :=
  (Any.strings_Trim_laid Tryz.lays160 (by kernel_rfl) s ⟨#[48, 49, 50, 51, 52, 53, 54, 55, 56, 57]⟩ w hs (by decide) (ascii_of_all (by decide))).mono fun e w' ⟨he, hw⟩ => ⟨he, hw⟩
theorem trimD_all {l : List UInt8} : Lib.trimS l [48, 49, 50, 51, 52, 53, 54, 55, 56, 57] = [] ↔ allD l = true := by
  rw [trimS_nil]
  simp only [digit_mem]
  rfl
set_option maxHeartbeats 1000000 in
theorem ddigits_no (s : ByteArray) (w : World) (hs : s.size ≤ 18) (hd : allD s.data.toList = false) :
    Calls Tryz.prog 36 #[.string s] w fun e w' => e = .returned (.tuple #[.int .i64 0, .bool false]) ∧ Below w.heap.size w w' := by
  have HT := Lib.hid (fun w => trimD s w (by omega))
  obtain ⟨c, t, hct⟩ : ∃ c t, Lib.trimS s.data.toList [48, 49, 50, 51, 52, 53, 54, 55, 56, 57] = c :: t := by
    cases h : Lib.trimS s.data.toList [48, 49, 50, 51, 52, 53, 54, 55, 56, 57] with
    | nil => rw [trimD_all.1 h] at hd; cases hd
    | cons c t => exact ⟨c, t, rfl⟩
  rw [hct] at HT
  clear hct hd
  have hne : (bs (c :: t)).toList.isEmpty = false := by rw [bs_toList]; rfl
  have hne2 : ¬ bs (c :: t) = ⟨#[]⟩ := fun e => by have := congrArg (fun s : ByteArray => s.data.toList) e; rw [bs_data] at this; cases this
  generalize bs (c :: t) = T at *
  go_enter Tryz.func36, Tryz.ntmps36
  go_wp2_with fail
  refine (Calls.toExt (HT.out _)).mono ?_
  rintro e _ ⟨rfl, x1, rfl⟩
  go_wp2_with fail
  go_ret2
  exact ⟨rfl, x1.2⟩
set_option maxHeartbeats 1000000 in
theorem ddigits_yes (s : ByteArray) (w : World) (hs : s.size ≤ 18) (hd : allD s.data.toList = true) (hn : s.data.toList ≠ []) :
    Calls Tryz.prog 36 #[.string s] w fun e w' => e = .returned (.tuple #[.int .i64 (valD s.data.toList : Nat), .bool true]) ∧ Below w.heap.size w w' := by
  have HT := Lib.hid (fun w => trimD s w (by omega))
  rw [trimD_all.2 hd] at HT
  have e0 : bs ([] : List UInt8) = ⟨#[]⟩ := rfl
  rw [e0] at HT
  have HA : Hid (∀ w, Calls Tryz.prog 57 #[.string s] w fun e w' => e = .returned (.tuple #[.int .i64 (valD s.data.toList : Nat), .nilIface]) ∧ Below w.heap.size w w') := fun w => by
    refine (Tryz.strconv_Atoi _ _ hs (atoi_digits hd hn) w).mono fun e w' ⟨he, t, hw⟩ => ⟨he, ?_⟩
    rw [hw]
    exact bytes_below w _ t
  generalize valD s.data.toList = v at *
  clear hd hn e0
  go_enter Tryz.func36, Tryz.ntmps36
  go_wp2_with fail
  refine (Calls.toExt (HT.out _)).mono ?_
  rintro e _ ⟨rfl, x1, rfl⟩
  go_wp2_with fail
  refine (Calls.toExt (HA.out _)).mono ?_
  rintro e _ ⟨rfl, x2, rfl⟩
  go_wp2_with fail
  refine wp_region_ext (by kernel_rfl) (by kernel_rfl) ?_
  repeat (go_big_quiet_step (fail))
  refine wpQuiet_nil ?_
  intro _ hw'
  obtain ⟨X9, hw''⟩ := hw'
  subst hw''
  go_wp2_with fail
  go_ret2
  exact ⟨rfl, (x1.2.trans (x2.2.mono x1.2.size)).trans (X9.2.mono (Nat.le_trans x1.2.size x2.2.size))⟩
/-- one number of a date's text -/
theorem ddigits_any (s : ByteArray) (w : World) (hs : s.size ≤ 18) (hn : s.data.toList ≠ []) :
    Calls Tryz.prog 36 #[.string s] w fun e w' => e = .returned (.tuple #[.int .i64 (if allD s.data.toList then (valD s.data.toList : Int) else 0), .bool (allD s.data.toList)]) ∧ Below w.heap.size w w' := by
  cases hd : allD s.data.toList with
  | false => exact ddigits_no s w hs hd
  | true => exact ddigits_yes s w hs hd hn

theorem dparse_len (s : ByteArray) (w : World) (_hs : s.size ≤ 1000) (h : ¬ s.size = 10) : Calls Tryz.prog 18 #[.string s] w fun e w' => e = .returned (.tuple #[.int .i64 0, .int .i64 3]) ∧ Below w.heap.size w w' := by
  have h1 : ¬ (s.size : Int) = 10 := by omega
  have h2 : ((s.size : Int) == 10) = false := by simpa using h1
  go_enter Tryz.func18, Tryz.ntmps18
  go_wp2_with fail
  go_ret2
  exact ⟨rfl, Below.refl _ _⟩
theorem u8_ne {a b : UInt8} (h : ¬ a = b) : ((a.toNat : Int) == (b.toNat : Int)) = false := by
  simp only [beq_eq_false_iff_ne, ne_eq, Int.natCast_inj]
  exact fun e => h (UInt8.toNat.inj e)
set_option maxHeartbeats 2000000 in
theorem dparse_ten (s : ByteArray) (w : World) (h : s.size = 10) : Calls Tryz.prog 18 #[.string s] w fun e w' => e = .returned (.tuple #[.int .i64 (parseV s.data.toList).1, .int .i64 ((parseV s.data.toList).2 : Nat)]) ∧ Below w.heap.size w w' := by
  have hl : s.data.toList.length = 10 := by rw [size_len]; exact h
  have h10 : (s.size : Int) = 10 := by omega
  have h4 : 4 < s.size := by omega
  have h7 : 7 < s.size := by omega
  have g4 : s[4] = s.data.toList.getD 4 0 := by
    rw [List.getD_eq_getElem?_getD, List.getElem?_eq_getElem (by omega)]; rfl
  have g7 : s[7] = s.data.toList.getD 7 0 := by
    rw [List.getD_eq_getElem?_getD, List.getElem?_eq_getElem (by omega)]; rfl
  have HP : Hid (parseV s.data.toList = if s.data.toList.length = 10 ∧ s.data.toList.getD 4 0 = 45 ∧ s.data.toList.getD 7 0 = 45 ∧ allD (s.data.toList.take 4) = true ∧ allD ((s.data.toList.take 7).drop 5) = true ∧ allD (s.data.toList.drop 8) = true then
    ofV (valD (s.data.toList.take 4)) (valD ((s.data.toList.take 7).drop 5)) (valD (s.data.toList.drop 8)) else (0, 3)) := rfl
  rw [← g4, ← g7] at HP
  have e1 : (s.extract 0 4).data.toList = s.data.toList.take 4 := by rw [ext_data, List.drop_zero]
  have e2 : (s.extract 5 7).data.toList = (s.data.toList.take 7).drop 5 := ext_data ..
  have e3 : (s.extract 8 s.size).data.toList = s.data.toList.drop 8 := by rw [ext_data, List.take_of_length_le (by rw [hl, h]; omega)]
  have l1 : (s.data.toList.take 4).length = 4 := by rw [List.length_take]; omega
  have l2 : ((s.data.toList.take 7).drop 5).length = 2 := by rw [List.length_drop, List.length_take]; omega
  have l3 : (s.data.toList.drop 8).length = 2 := by rw [List.length_drop]; omega
  have H1 := Lib.hid (fun w => ddigits_any (s.extract 0 4) w (by rw [← size_len, e1, l1]; omega) (by rw [e1]; exact fun e => by rw [e] at l1; cases l1))
  have H2 := Lib.hid (fun w => ddigits_any (s.extract 5 7) w (by rw [← size_len, e2, l2]; omega) (by rw [e2]; exact fun e => by rw [e] at l2; cases l2))
  have H3 := Lib.hid (fun w => ddigits_any (s.extract 8 s.size) w (by rw [← size_len, e3, l3]; omega) (by rw [e3]; exact fun e => by rw [e] at l3; cases l3))
  rw [e1] at H1
  rw [e2] at H2
  rw [e3] at H3
  clear g4 g7 e1 e2 e3 l1 l2 l3
  have HL := Lib.hid hl
  have HO := Lib.hid of_any
  generalize s.data.toList.take 4 = A at *
  generalize (s.data.toList.take 7).drop 5 = B at *
  generalize s.data.toList.drop 8 = C at *
  generalize s.data.toList = l at *
  clear hl
  have H10 := Lib.hid h
  clear h
  by_cases c4 : s[4] = 45
  · have k4 : ((s[4].toNat : Int) == 45) = true := by rw [c4]; rfl
    have j4 : (s[4].toNat : Int) = 45 := by rw [c4]; rfl
    by_cases c7 : s[7] = 45
    · have k7 : ((s[7].toNat : Int) == 45) = true := by rw [c7]; rfl
      have j7 : (s[7].toNat : Int) = 45 := by rw [c7]; rfl
      have HQ : Hid (parseV l = if allD A = true ∧ allD B = true ∧ allD C = true then ofV (valD A) (valD B) (valD C) else (0, 3)) := by
        unfold Hid
        rw [HP.out]
        by_cases hc : allD A = true ∧ allD B = true ∧ allD C = true
        · rw [if_pos hc, if_pos ⟨HL.out, c4, c7, hc.1, hc.2.1, hc.2.2⟩]
        · rw [if_neg hc, if_neg (fun h => hc h.2.2.2)]
      clear HP c4 c7
      generalize valD A = va at *
      generalize valD B = vb at *
      generalize valD C = vc at *
      cases hA : allD A <;> cases hB : allD B <;> cases hC : allD C <;> rw [hA] at H1 HQ <;> rw [hB] at H2 HQ <;> rw [hC] at H3 HQ <;> clear hA hB hC
      rotate_left 7
      · skip
        have HQ2 : Hid (parseV l = ofV va vb vc) := by unfold Hid; rw [HQ.out, if_pos ⟨rfl, rfl, rfl⟩]
        have HOV := Lib.hid (fun w => HO.out (va : Int) (vb : Int) (vc : Int) w)
        generalize ofV (va : Int) (vb : Int) (vc : Int) = ov at *
        simp only [if_true] at H1 H2 H3
        go_enter Tryz.func18, Tryz.ntmps18
        go_wp2_with fail
        refine (Calls.toExt (H1.out _)).mono ?_
        rintro e _ ⟨rfl, x1, rfl⟩
        go_wp2_with fail
        refine (Calls.toExt (H2.out _)).mono ?_
        rintro e _ ⟨rfl, x2, rfl⟩
        go_wp2_with fail
        refine (Calls.toExt (H3.out _)).mono ?_
        rintro e _ ⟨rfl, x3, rfl⟩
        go_wp2_with fail
        refine (Calls.toExt (HOV.out _)).mono ?_
        rintro e _ ⟨rfl, x4, rfl⟩
        go_wp2_with fail
        go_ret2
        exact ⟨by rw [HQ2.out]; rfl, (((Bel.refl w).ext x1).ext x2 |>.ext x3).ext x4⟩
      all_goals
        have HQ2 : Hid (parseV l = (0, 3)) := by unfold Hid; rw [HQ.out]; rfl
        simp only [if_true, Bool.false_eq_true, if_false] at H1 H2 H3
        go_enter Tryz.func18, Tryz.ntmps18
        go_wp2_with fail
        refine (Calls.toExt (H1.out _)).mono ?_
        rintro e _ ⟨rfl, x1, rfl⟩
        go_wp2_with fail
        refine (Calls.toExt (H2.out _)).mono ?_
        rintro e _ ⟨rfl, x2, rfl⟩
        go_wp2_with fail
        refine (Calls.toExt (H3.out _)).mono ?_
        rintro e _ ⟨rfl, x3, rfl⟩
        go_wp2_with fail
        go_ret2
        exact ⟨by rw [HQ2.out]; rfl, ((Bel.refl w).ext x1).ext x2 |>.ext x3⟩
    · have k7 : ((s[7].toNat : Int) == 45) = false := u8_ne (b := 45) c7
      have j7 : ¬ (s[7].toNat : Int) = 45 := by simpa using k7
      have HQ2 : Hid (parseV l = (0, 3)) := by unfold Hid; rw [HP.out, if_neg (fun h => c7 h.2.2.1)]
      clear HP H1 H2 H3
      go_enter Tryz.func18, Tryz.ntmps18
      go_wp2_with fail
      go_ret2
      exact ⟨by rw [HQ2.out]; rfl, Below.refl _ _⟩
  · have k4 : ((s[4].toNat : Int) == 45) = false := u8_ne (b := 45) c4
    have j4 : ¬ (s[4].toNat : Int) = 45 := by simpa using k4
    have HQ2 : Hid (parseV l = (0, 3)) := by unfold Hid; rw [HP.out, if_neg (fun h => c4 h.2.1)]
    clear HP H1 H2 H3
    go_enter Tryz.func18, Tryz.ntmps18
    go_wp2_with fail
    go_ret2
    exact ⟨by rw [HQ2.out]; rfl, Below.refl _ _⟩
theorem dparse_any (s : ByteArray) (w : World) (hs : s.size ≤ 1000) : Calls Tryz.prog 18 #[.string s] w fun e w' => e = .returned (.tuple #[.int .i64 (parseV s.data.toList).1, .int .i64 ((parseV s.data.toList).2 : Nat)]) ∧ Below w.heap.size w w' := by
  by_cases h : s.size = 10
  · exact dparse_ten s w h
  · rw [parse_len (by rw [size_len]; exact h)]
    exact dparse_len s w hs h
end Go.Proofs.YtaolbfbnjbpljaaGreatDoor
