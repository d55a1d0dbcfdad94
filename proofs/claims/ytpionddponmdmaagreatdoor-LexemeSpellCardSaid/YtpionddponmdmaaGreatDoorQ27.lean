/- Walks: lexeme's in, run and skip, of any string. -/
import Derived.Test.YtpionddponmdmaaGreatDoorQ21
import Derived.Test.YtpionddponmdmaaGreatDoorQ23
import Derived.Test.YtpionddponmdmaaGreatDoorQ24
import Derived.Test.YtpionddponmdmaaGreatDoorQ25
import Derived.Test.YtpionddponmdmaaGreatDoorQ26
namespace Go.Proofs.YtpionddponmdmaaGreatDoor
open Go.RowKit
attribute [local go_sem] Ext.cell Ext.frozen
attribute [local go_sem ↓] Go.wp_at_zero Go.wp_at_succ
def blanksL : List UInt8 := [32, 9, 10, 13]
def marksL : List UInt8 := [123, 125, 59]
def innerL : List UInt8 := [65, 66, 67, 68, 69, 70, 71, 72, 73, 74, 75, 76, 77, 78, 79, 80, 81, 82, 83, 84, 85, 86, 87, 88, 89, 90, 97, 98, 99, 100, 101, 102, 103, 104, 105, 106, 107, 108, 109, 110, 111, 112, 113, 114, 115, 116, 117, 118, 119, 120, 121, 122, 48, 49, 50, 51, 52, 53, 54, 55, 56, 57, 45, 95]
theorem indexByte_mem (l : List UInt8) (c : UInt8) : (c ∈ l → 0 ≤ Lib.indexByte l c) ∧ (c ∉ l → Lib.indexByte l c = -1) := by
  induction l with
  | nil => exact ⟨fun h => (by cases h), fun _ => rfl⟩
  | cons b l ih =>
    unfold Lib.indexByte
    by_cases h : b = c
    · subst h
      rw [beq_self_eq_true, if_pos rfl]
      exact ⟨fun _ => Int.le_refl _, fun h => absurd (List.mem_cons_self ..) h⟩
    · rw [if_neg (by simpa using h)]
      constructor
      · intro hm
        have hm2 : c ∈ l := (List.mem_cons.1 hm).resolve_left (fun e => h e.symm)
        have := ih.1 hm2
        rw [if_neg (by simp only [beq_iff_eq]; omega)]
        omega
      · intro hm
        rw [if_pos (by rw [ih.2 (fun e => hm (List.mem_cons_of_mem _ e))]; rfl)]
theorem u8_back (c : UInt8) : ((c.toNat : Int).toNat.toUInt8) = c := by rw [Int.toNat_natCast]; simp
theorem in_any (c : UInt8) (l : List UInt8) (w : World) : Calls Tryz.prog 16 #[.int .u8 (c.toNat : Int), .string (bs l)] w fun e w' => e = .returned (.bool (decide (c ∈ l))) ∧ w = w' := by
  have HIX := Lib.hid (fun w => Tryz.strings_IndexByte (bs l) (c.toNat : Int) w)
  rw [bs_data, u8_back] at HIX
  by_cases h : c ∈ l
  · have h1 := (indexByte_mem l c).1 h
    rw [decide_eq_true h]
    generalize Lib.indexByte l c = ix at *
    generalize bs l = S at *
    go_enter Tryz.func16, Tryz.ntmps16
    go_wp2_with fail
    refine (HIX.out _).mono ?_
    rintro e _ ⟨rfl, rfl⟩
    go_wp2_with fail
    go_ret
    exact ⟨rfl, rfl⟩
  · rw [(indexByte_mem l c).2 h] at HIX
    rw [decide_eq_false h]
    generalize bs l = S at *
    go_enter Tryz.func16, Tryz.ntmps16
    go_wp2_with fail
    refine (HIX.out _).mono ?_
    rintro e _ ⟨rfl, rfl⟩
    go_wp2_with fail
    go_ret
    exact ⟨rfl, rfl⟩
def wordLen (l : List UInt8) : Nat := (l.takeWhile (innerL.contains ·)).length
theorem wordLen_le (l : List UInt8) : wordLen l ≤ l.length := (List.takeWhile_prefix _).length_le
theorem drop_len (l : List UInt8) (p : UInt8 → Bool) : (l.dropWhile p).length = l.length - (l.takeWhile p).length := by
  have := congrArg List.length (List.takeWhile_append_dropWhile (p := p) (l := l))
  rw [List.length_append] at this
  omega
theorem run_any (l : List UInt8) (hl : l.length ≤ 100000) (w : World) : Calls Tryz.prog 21 #[.string (bs l), .string (bs innerL)] w fun e w' => e = .returned (.int .i64 (wordLen l : Int)) ∧ Below w.heap.size w w' := by
  have HTR : Hid (∀ w, Calls Tryz.prog 36 #[.string (bs l), .string (bs innerL)] w fun e w' => ∃ T : ByteArray, e = .returned (.string T) ∧ (T.size : Int) = (l.length : Int) - (wordLen l : Int) ∧ Below w.heap.size w w') := fun w => by
    refine (Any.strings_TrimLeft_laid Tryz.lays161 (by kernel_rfl) (bs l) (bs innerL) w (by decide) (fun j b h => ?_)).mono ?_
    · have hm : b ∈ innerL := List.mem_of_getElem? h
      have k : ∀ b ∈ innerL, b.toNat < 128 := by decide
      exact k b hm
    · rintro e w' ⟨rfl, hb⟩
      refine ⟨_, rfl, ?_, hb⟩
      rw [bs_data, bs_data]
      show ((Lib.trimLeftS l innerL).toArray.size : Int) = _
      rw [List.size_toArray]
      unfold Lib.trimLeftS
      rw [drop_len]
      have := wordLen_le l
      unfold wordLen at this ⊢
      omega
  have hsz : (bs l).size = l.length := bs_size l
  have hle : (bs l).size ≤ 100000 := by omega
  have hwl := wordLen_le l
  have HS := Lib.hid hsz
  generalize hW : wordLen l = W at *
  generalize bs l = S at *
  generalize bs innerL = I at *
  clear hsz hW
  go_enter Tryz.func21, Tryz.ntmps21
  go_wp2_with fail
  refine (HTR.out _).mono ?_
  rintro e w2 ⟨T, rfl, hT, hb⟩
  have HB := Lib.hid hb
  have HT : Hid ((S.size : Int) - (T.size : Int) = (W : Int)) := by unfold Hid; rw [hT, HS.out]; omega
  have hts : T.size ≤ 100000 := by omega
  clear hT hb
  go_wp2_with fail
  go_ret
  exact ⟨by rw [← HT.out]; rfl, HB.out⟩
def skipS : Bool → List UInt8 → Nat
  | _, [] => 0
  | true, c :: r => if c = 10 then 1 + skipS false r else 1 + skipS true r
  | false, c :: r => if c ∈ blanksL then 1 + skipS false r else if c = 35 then 1 + skipS true r else 0
def lineL (l : List UInt8) : Nat := (l.takeWhile (· != 10)).length
theorem skip_line : ∀ r : List UInt8, skipS true r = lineL r + skipS false (r.drop (lineL r))
  | [] => rfl
  | c :: r => by
    by_cases h : c = 10
    · subst h
      have e : lineL (10 :: r) = 0 := by unfold lineL; rw [List.takeWhile_cons, if_neg (by decide)]; rfl
      rw [e, List.drop_zero, skipS, if_pos rfl, skipS, if_pos (by decide), Nat.zero_add]
    · have e : lineL (c :: r) = lineL r + 1 := by unfold lineL; rw [List.takeWhile_cons, if_pos (by simpa using h)]; rfl
      rw [e, List.drop_succ_cons, skipS, if_neg h, skip_line r]
      omega
theorem cut_nl : ∀ l : List UInt8, (Lib.cut l [10]).1 = l.takeWhile (· != 10)
  | [] => rfl
  | c :: l => by
    have ih := cut_nl l
    unfold Lib.cut at ih ⊢
    by_cases h : c = 10
    · subst h
      have : Lib.index (10 :: l) [10] = 0 := by unfold Lib.index; simp
      rw [this, if_pos (Int.le_refl _)]
      rfl
    · have hge := Lib.index_ge l [10]
      have e : Lib.index (c :: l) [10] = if Lib.index l [10] == -1 then -1 else Lib.index l [10] + 1 := by
        rw [Lib.index]
        rw [if_neg (by simp only [List.isPrefixOf, Bool.and_true, beq_iff_eq]; exact fun e => h e.symm)]
      have et : (c :: l).takeWhile (· != 10) = c :: l.takeWhile (· != 10) := by rw [List.takeWhile_cons, if_pos (by simpa using h)]
      rw [et]
      by_cases hm : Lib.index l [10] = -1
      · have e2 : Lib.index (c :: l) [10] = -1 := by rw [e, hm]; rfl
        rw [hm, if_neg (by omega)] at ih
        rw [e2, if_neg (by omega), ← ih]
      · have e2 : Lib.index (c :: l) [10] = Lib.index l [10] + 1 := by rw [e, if_neg (by simpa using hm)]
        rw [if_pos (by omega)] at ih
        rw [e2, if_pos (by omega), ← ih, show (Lib.index l [10] + 1).toNat = (Lib.index l [10]).toNat + 1 by omega]
        rfl
end Go.Proofs.YtpionddponmdmaaGreatDoor
