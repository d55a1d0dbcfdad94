/- Walk: the program reads an escaped text back. -/
import Derived.Test.YtmleeodfmmpdgaaGreatDoorQ06
import Derived.Test.YtmleeodfmmpdgaaGreatDoorQ07
import Derived.Test.YtmleeodfmmpdgaaGreatDoorQ08
import Derived.Deep.DeepCutAuto
namespace Go.Proofs.YtmleeodfmmpdgaaGreatDoor
open Go.RowKit
attribute [local go_sem] Ext.cell Ext.frozen
attribute [local go_sem ↓] Go.wp_at_zero Go.wp_at_succ
end Go.Proofs.YtmleeodfmmpdgaaGreatDoor
namespace Go.Proofs.YtmleeodfmmpdgaaGreatDoor
open Go.RowKit
def MaxLen (w : World) : Prop := ∃ m, w.cell? ⟨1, 0, none⟩ = some (.int .i64 m)
theorem MaxLen.below {w w' : World} (h : MaxLen w) (hb : Below w.heap.size w w') : MaxLen w' := by
  obtain ⟨m, h⟩ := h
  exact ⟨m, (hb.cell (p := ⟨1, 0, none⟩) (World.block_lt_of_cell? w _ h)).trans h⟩
end Go.Proofs.YtmleeodfmmpdgaaGreatDoor
namespace Go.Proofs.YtmleeodfmmpdgaaGreatDoor
open Go.RowKit
attribute [local go_sem] Ext.cell Ext.frozen
attribute [local go_sem ↓] Go.wp_at_zero Go.wp_at_succ
def blanksL : List UInt8 := [32, 9, 10, 13]
def marksL : List UInt8 := [123, 125, 59]
def innerL : List UInt8 := [65, 66, 67, 68, 69, 70, 71, 72, 73, 74, 75, 76, 77, 78, 79, 80, 81, 82, 83, 84, 85, 86, 87, 88, 89, 90, 97, 98, 99, 100, 101, 102, 103, 104, 105, 106, 107, 108, 109, 110, 111, 112, 113, 114, 115, 116, 117, 118, 119, 120, 121, 122, 48, 49, 50, 51, 52, 53, 54, 55, 56, 57, 45, 95]
theorem indexByte_mem (l : List UInt8) (c : UInt8) : (c ∈ l → 0 ≤ Lib.indexByte l c) ∧ (c ∉ l → Lib.indexByte l c = -1) := by
  induction l with
  | nil => exact ⟨fun h => (by cases h), fun _ => rfl⟩
  | cons b l ih =>
    unfold Lib.indexByte
    by_cases h : b = c
    · subst h
      rw [beq_self_eq_true, if_pos rfl]
      exact ⟨fun _ => Int.le_refl _, fun h => absurd (List.mem_cons_self ..) h⟩
    · rw [if_neg (by simpa using h)]
      constructor
      · intro hm
        have hm2 : c ∈ l := (List.mem_cons.1 hm).resolve_left (fun e => h e.symm)
        have := ih.1 hm2
        rw [if_neg (by simp only [beq_iff_eq]; omega)]
        omega
      · intro hm
        rw [if_pos (by rw [ih.2 (fun e => hm (List.mem_cons_of_mem _ e))]; rfl)]
theorem u8_back (c : UInt8) : ((c.toNat : Int).toNat.toUInt8) = c := by rw [Int.toNat_natCast]; simp
theorem in_any (c : UInt8) (l : List UInt8) (w : World) : Calls Tryz.prog 172 #[.int .u8 (c.toNat : Int), .string (bs l)] w fun e w' => e = .returned (.bool (decide (c ∈ l))) ∧ w = w' := by
  have HIX := Lib.hid (fun w => Tryz.strings_IndexByte (bs l) (c.toNat : Int) w)
  rw [bs_data, u8_back] at HIX
  by_cases h : c ∈ l
  · have h1 := (indexByte_mem l c).1 h
    rw [decide_eq_true h]
    generalize Lib.indexByte l c = ix at *
    generalize bs l = S at *
    go_enter Tryz.func172, Tryz.ntmps172
    go_wp2_with fail
    refine (HIX.out _).mono ?_
    rintro e _ ⟨rfl, rfl⟩
    go_wp2_with fail
    go_ret
    exact ⟨rfl, rfl⟩
  · rw [(indexByte_mem l c).2 h] at HIX
    rw [decide_eq_false h]
    generalize bs l = S at *
    go_enter Tryz.func172, Tryz.ntmps172
    go_wp2_with fail
    refine (HIX.out _).mono ?_
    rintro e _ ⟨rfl, rfl⟩
    go_wp2_with fail
    go_ret
    exact ⟨rfl, rfl⟩
def wordLen (l : List UInt8) : Nat := (l.takeWhile (innerL.contains ·)).length
theorem wordLen_le (l : List UInt8) : wordLen l ≤ l.length := (List.takeWhile_prefix _).length_le
theorem drop_len (l : List UInt8) (p : UInt8 → Bool) : (l.dropWhile p).length = l.length - (l.takeWhile p).length := by
  have := congrArg List.length (List.takeWhile_append_dropWhile (p := p) (l := l))
  rw [List.length_append] at this
  omega
theorem run_any (l : List UInt8) (hl : l.length ≤ 200000) (w : World) : Calls Tryz.prog 168 #[.string (bs l), .string (bs innerL)] w fun e w' => e = .returned (.int .i64 (wordLen l : Int)) ∧ Below w.heap.size w w' := by
  have HTR : Hid (∀ w, Calls Tryz.prog 209 #[.string (bs l), .string (bs innerL)] w fun e w' => ∃ T : ByteArray, e = .returned (.string T) ∧ (T.size : Int) = (l.length : Int) - (wordLen l : Int) ∧ Below w.heap.size w w') := fun w => by
    refine (Any.strings_TrimLeft_laid Tryz.lays161 (by kernel_rfl) (bs l) (bs innerL) w (by decide) (fun j b h => ?_)).mono ?_
    · have hm : b ∈ innerL := List.mem_of_getElem? h
      have k : ∀ b ∈ innerL, b.toNat < 128 := by decide
      exact k b hm
    · rintro e w' ⟨rfl, hb⟩
      refine ⟨_, rfl, ?_, hb⟩
      rw [bs_data, bs_data]
      show ((Lib.trimLeftS l innerL).toArray.size : Int) = _
      rw [List.size_toArray]
      unfold Lib.trimLeftS
      rw [drop_len]
      have := wordLen_le l
      unfold wordLen at this ⊢
      omega
  have hsz : (bs l).size = l.length := bs_size l
  have hle : (bs l).size ≤ 200000 := by omega
  have hwl := wordLen_le l
  have HS := Lib.hid hsz
  generalize hW : wordLen l = W at *
  generalize bs l = S at *
  generalize bs innerL = I at *
  clear hsz hW
  go_enter Tryz.func168, Tryz.ntmps168
  go_wp2_with fail
  refine (HTR.out _).mono ?_
  rintro e w2 ⟨T, rfl, hT, hb⟩
  have HB := Lib.hid hb
  have HT : Hid ((S.size : Int) - (T.size : Int) = (W : Int)) := by unfold Hid; rw [hT, HS.out]; omega
  have hts : T.size ≤ 200000 := by omega
  clear hT hb
  go_wp2_with fail
  go_ret
  exact ⟨by rw [← HT.out]; rfl, HB.out⟩
def skipS : Bool → List UInt8 → Nat
  | _, [] => 0
  | true, c :: r => if c = 10 then 1 + skipS false r else 1 + skipS true r
  | false, c :: r => if c ∈ blanksL then 1 + skipS false r else if c = 35 then 1 + skipS true r else 0
def lineL (l : List UInt8) : Nat := (l.takeWhile (· != 10)).length
theorem skip_line : ∀ r : List UInt8, skipS true r = lineL r + skipS false (r.drop (lineL r))
  | [] => rfl
  | c :: r => by
    by_cases h : c = 10
    · subst h
      have e : lineL (10 :: r) = 0 := by unfold lineL; rw [List.takeWhile_cons, if_neg (by decide)]; rfl
      rw [e, List.drop_zero, skipS, if_pos rfl, skipS, if_pos (by decide), Nat.zero_add]
    · have e : lineL (c :: r) = lineL r + 1 := by unfold lineL; rw [List.takeWhile_cons, if_pos (by simpa using h)]; rfl
      rw [e, List.drop_succ_cons, skipS, if_neg h, skip_line r]
      omega
theorem cut_nl : ∀ l : List UInt8, (Lib.cut l [10]).1 = l.takeWhile (· != 10)
  | [] => rfl
  | c :: l => by
    have ih := cut_nl l
    unfold Lib.cut at ih ⊢
    by_cases h : c = 10
    · subst h
      have : Lib.index (10 :: l) [10] = 0 := by unfold Lib.index; simp
      rw [this, if_pos (Int.le_refl _)]
      rfl
    · have hge := Lib.index_ge l [10]
      have e : Lib.index (c :: l) [10] = if Lib.index l [10] == -1 then -1 else Lib.index l [10] + 1 := by
        rw [Lib.index]
        rw [if_neg (by simp only [List.isPrefixOf, Bool.and_true, beq_iff_eq]; exact fun e => h e.symm)]
      have et : (c :: l).takeWhile (· != 10) = c :: l.takeWhile (· != 10) := by rw [List.takeWhile_cons, if_pos (by simpa using h)]
      rw [et]
      by_cases hm : Lib.index l [10] = -1
      · have e2 : Lib.index (c :: l) [10] = -1 := by rw [e, hm]; rfl
        rw [hm, if_neg (by omega)] at ih
        rw [e2, if_neg (by omega), ← ih]
      · have e2 : Lib.index (c :: l) [10] = Lib.index l [10] + 1 := by rw [e, if_neg (by simpa using hm)]
        rw [if_pos (by omega)] at ih
        rw [e2, if_pos (by omega), ← ih, show (Lib.index l [10] + 1).toNat = (Lib.index l [10]).toNat + 1 by omega]
        rfl
theorem skip_cons (l : List UInt8) {k : Nat} (h : k < l.length) (b : Bool) : skipS b (l.drop k) = skipS b (l.getD k 0 :: l.drop (k + 1)) := by rw [← drop_at h]
theorem skip_blank {c : UInt8} (r : List UInt8) (h : c ∈ blanksL) : skipS false (c :: r) = 1 + skipS false r := by rw [skipS, if_pos h]
theorem skip_hash (r : List UInt8) : skipS false (35 :: r) = skipS true (35 :: r) := by
  have e1 : skipS false (35 :: r) = 1 + skipS true r := by rw [skipS, if_neg (by decide), if_pos rfl]
  have e2 : skipS true (35 :: r) = 1 + skipS true r := by rw [skipS, if_neg (by decide)]
  rw [e1, e2]
theorem skip_stop {c : UInt8} (r : List UInt8) (h : c ∉ blanksL) (h2 : c ≠ 35) : skipS false (c :: r) = 0 := by rw [skipS, if_neg h, if_neg h2]
theorem skip_le : ∀ (b : Bool) (l : List UInt8), skipS b l ≤ l.length
  | true, [] => Nat.le_refl _
  | false, [] => Nat.le_refl _
  | true, c :: r => by
    have h1 := skip_le true r
    have h2 := skip_le false r
    rw [skipS, List.length_cons]
    split <;> omega
  | false, c :: r => by
    have h1 := skip_le true r
    have h2 := skip_le false r
    rw [skipS, List.length_cons]
    split
    · omega
    · split <;> omega
theorem cut_line (l : List UInt8) (w : World) (hl : l.length ≤ 200000) (hM : MaxLen w) : Calls Tryz.prog 173 #[.string (bs l), .string ⟨#[10]⟩] w fun e w' => ∃ (D E : ByteArray) (b : Bool), e = .returned (.tuple #[.string D, .string E, .bool b]) ∧ D.size = lineL l ∧ Below w.heap.size w w' := by
  obtain ⟨m, hm⟩ := hM
  refine (Tryz.strings_Cut (bs l) ⟨#[10]⟩ m w (by rw [bs_size]; omega) hm).mono ?_
  rintro e _ ⟨rfl, k, rfl⟩
  refine ⟨_, _, _, rfl, ?_, below_drewN _ _⟩
  rw [bs_data, show (⟨#[10]⟩ : ByteArray).data.toList = [10] from rfl, cut_nl]
  show ((l.takeWhile (· != 10)).toArray).size = _
  rw [List.size_toArray]
  rfl
theorem lineL_le (l : List UInt8) : lineL l ≤ l.length := (List.takeWhile_prefix _).length_le
set_option maxRecDepth 20000 in
set_option maxHeartbeats 4000000 in
theorem skip_any (l : List UInt8) (k0 : Nat) (hk : k0 ≤ l.length) (hl : l.length ≤ 200000) (w : World) (hM : MaxLen w) :
    Calls Tryz.prog 116 #[.string (bs l), .int .i64 (k0 : Int)] w fun e w' => e = .returned (.int .i64 ((k0 + skipS false (l.drop k0) : Nat) : Int)) ∧ Below w.heap.size w w' := by
  have hsz : (bs l).size = l.length := bs_size l
  have HSZ := Lib.hid hsz
  have hle : (bs l).size ≤ 200000 := by omega
  have HAT : Hid (∀ (i : Nat) (g : i < (bs l).size), (bs l)[i]'g = l.getD i 0) := fun i g => ba_at l g
  have HEX := Lib.hid (ext_drop l)
  have HM := Lib.hid (fun w' (h : Below w.heap.size w w') => hM.below h)
  have HIN : Hid (∀ c w, Calls Tryz.prog 172 #[.int .u8 (c.toNat : Int), .string ⟨#[32, 9, 10, 13]⟩] w fun e w' => e = .returned (.bool (decide (c ∈ blanksL))) ∧ w = w') := fun c w => in_any c blanksL w
  generalize hS : bs l = S at *
  obtain ⟨X, hX⟩ : ∃ X, k0 + skipS false (l.drop k0) = X := ⟨_, rfl⟩
  rw [hX]
  have HX := Lib.hid hX
  clear hS hsz hX hM
  go_enter Tryz.func116, Tryz.ntmps116
  go_wp2_with fail
  go_loopw [1] (fun i wr => ∃ k : Nat, k ≤ l.length ∧ i = .int .i64 (k : Int) ∧ k + skipS false (l.drop k) = X ∧ Below w.heap.size w wr) (fun i _ => l.length - (intOf i).toNat)
  case atStart => exact ⟨k0, hk, rfl, HX.out, Below.refl _ _⟩
  case round =>
    obtain ⟨k, hk, rfl, hsk, hbl⟩ := hrel
    have HSK := Lib.hid hsk
    have HBL := Lib.hid hbl
    have hzr := hbl.size
    clear hsk hbl
    by_cases hlt : k < l.length
    · have hks : k < S.size := by rw [HSZ.out]; exact hlt
      have hix : ∀ g : k < S.size, S[k]'g = l.getD k 0 := fun g => HAT.out k g
      have hcut : S.extract k S.size = bs (l.drop k) := HEX.out k
      have HCT := Lib.hid (fun w h => cut_line (l.drop k) w (by rw [List.length_drop]; omega) h)
      have hcs := skip_cons l hlt false
      have hct := skip_cons l hlt true
      have hln := skip_line (l.drop k)
      have hll := lineL_le (l.drop k)
      have hl1 : l.getD k 0 ≠ 10 → 1 ≤ lineL (l.drop k) := fun h => by
        rw [drop_at hlt]
        unfold lineL
        rw [List.takeWhile_cons, if_pos (by simpa using h)]
        simp
      rw [List.drop_drop] at hln
      rw [List.length_drop] at hll
      have HI := Lib.hid (HIN.out (l.getD k 0))
      have HLT := Lib.hid hlt
      generalize l.getD k 0 = c at *
      by_cases hb : c ∈ blanksL
      · have HNX : Hid (k + 1 + skipS false (l.drop (k + 1)) = X) := by unfold Hid; rw [← HSK.out, hcs, skip_blank _ hb]; omega
        rw [decide_eq_true hb] at HI
        clear hcs hct hln hll hl1 hb
        go_wp2_with fail
        refine (HI.out _).mono ?_
        rintro e _ ⟨rfl, rfl⟩
        go_wp2_with fail
        go_roundw
        case rel => exact ⟨k + 1, HLT.out, by go_num, HNX.out, HBL.out⟩
        case measure => have := HLT.out; simp [intOf]; omega
      · rw [decide_eq_false hb] at HI
        by_cases h35 : c = 35
        · subst h35
          have HNX : Hid (k + lineL (l.drop k) + skipS false (l.drop (k + lineL (l.drop k))) = X) := by
            unfold Hid
            rw [← HSK.out, hcs, skip_hash, ← hct, hln]
            omega
          have HL1 := Lib.hid (hl1 (by decide))
          have HLL := Lib.hid hll
          have hjb : lineL (l.drop k) ≤ 200000 := by omega
          clear hcs hct hln hll hl1 hb
          generalize lineL (l.drop k) = j at *
          generalize bs (l.drop k) = E at *
          go_wp2_with fail
          refine (HI.out _).mono ?_
          rintro e _ ⟨rfl, rfl⟩
          go_wp2_with fail
          refine (HCT.out _ (HM.out _ HBL.out)).mono ?_
          rintro e w2 ⟨D, E2, b, rfl, hD, hb2⟩
          have HB2 : Hid (Below w.heap.size w w2) := HBL.out.trans (hb2.mono hzr)
          have HDj := Lib.hid hD
          have hDs : D.size ≤ 200000 := by omega
          clear hb2 hD
          go_wp2_with fail
          go_roundw
          case rel => exact ⟨k + j, by have := HLL.out; have := HLT.out; omega, by rw [HDj.out]; go_num, HNX.out, HB2.out⟩
          case measure => have := HL1.out; have := HDj.out; have := HLT.out; simp [intOf]; omega
        · have g35 : ((c.toNat : Int) == 35) = false := neU h35
          have HE : Hid (X = k) := by unfold Hid; rw [← HSK.out, hcs, skip_stop _ hb h35]; rfl
          clear hcs hct hln hll hl1 hb h35
          go_wp2_with fail
          refine (HI.out _).mono ?_
          rintro e _ ⟨rfl, rfl⟩
          go_wp2_with fail
          go_ret
          exact ⟨by rw [HE.out]; rfl, HBL.out⟩
    · obtain rfl : k = l.length := by omega
      have hks : ¬ l.length < S.size := by rw [HSZ.out]; omega
      have HE : Hid (X = l.length) := by unfold Hid; rw [← HSK.out, List.drop_length]; rfl
      go_wp2_with fail
      go_ret
      exact ⟨by rw [HE.out]; rfl, HBL.out⟩
def TabU (w : World) : Prop := Lib.Utf8Tabs 2 3 w
theorem TabU.below {w w' : World} (h : TabU w) (hb : Below w.heap.size w w') : TabU w' := Utf8Tabs_below h hb
theorem valid_any (l : List UInt8) (hl : l.length ≤ 200000) (w : World) (hT : TabU w) : Calls Tryz.prog 197 #[.string (bs l)] w fun e w' => e = .returned (.bool (Lib.validD l)) ∧ Below w.heap.size w w' := by
  have HV : Hid (Calls Tryz.prog 249 #[.string (bs l)] w fun e w' => e = .returned (.bool (Lib.validD l)) ∧ Below w.heap.size w w') := Any.utf8_ValidString Tryz.lays196 (bs l) w (by rw [bs_size]; omega) hT
  generalize bs l = S at *
  generalize Lib.validD l = B at *
  go_enter Tryz.func197, Tryz.ntmps197
  go_wp2_with fail
  refine HV.out.mono ?_
  rintro e w2 ⟨rfl, hb⟩
  have HB := Lib.hid hb
  clear hb
  go_wp2_with fail
  go_ret
  exact ⟨rfl, HB.out⟩
abbrev Nx := (Nat × List UInt8 × Nat) × Nat × Nat × Nat
def badN (i e : Nat) : Nx := ((0, [], 0), 0, i, e)
def quotedV (l : List UInt8) (i : Nat) : Nx :=
  match endL (l.drop (i + 1)) with
  | none => badN i 3
  | some n =>
    if (unescV ((l.drop (i + 1)).take n)).2.2 ≠ 0 then badN (i + 1 + (unescV ((l.drop (i + 1)).take n)).2.1) 3
    else if 400 < (unescV ((l.drop (i + 1)).take n)).1.length then badN i 6
    else if Lib.validD (unescV ((l.drop (i + 1)).take n)).1 = false then badN i 4
    else ((2, (unescV ((l.drop (i + 1)).take n)).1, i), n + 2, 0, 0)
def nextV (l : List UInt8) (i : Nat) : Nx :=
  if l.getD i 0 ∈ marksL then ((3, [l.getD i 0], i), 1, 0, 0)
  else if l.getD i 0 = 34 then quotedV l i
  else if wordLen (l.drop i) = 0 then badN i 3
  else if 40 < wordLen (l.drop i) then badN i 6
  else ((1, (l.drop i).take (wordLen (l.drop i)), i), wordLen (l.drop i), 0, 0)
def nxR (x : Nx) : Ending := .returned (.tuple #[.agg #[.int .i64 (x.1.1 : Int), .string (bs x.1.2.1), .int .i64 (x.1.2.2 : Int)], .int .i64 (x.2.1 : Int), .agg #[.int .i64 (x.2.2.1 : Int), .int .i64 (x.2.2.2 : Int)]])
def set5 (W : World) (B : Nat) (x y z p q : Value) : World := ((((W.setCell ⟨B, 0, none⟩ x).setCell ⟨B, 1, none⟩ y).setCell ⟨B, 2, none⟩ z).setCell ⟨B + 1, 0, none⟩ p).setCell ⟨B + 1, 1, none⟩ q
theorem set5_cells {W : World} {B : Nat} {a b c d e : Value} {T U : TypeId} (h1 : W.heap[B]? = some (.cells #[a, b, c] T (0, 0))) (h2 : W.heap[B + 1]? = some (.cells #[d, e] U (0, 0))) (x y z p q : Value) :
    (set5 W B x y z p q).cell? ⟨B, 0, none⟩ = some x ∧ (set5 W B x y z p q).cell? ⟨B, 1, none⟩ = some y ∧ (set5 W B x y z p q).cell? ⟨B, 2, none⟩ = some z ∧ (set5 W B x y z p q).cell? ⟨B + 1, 0, none⟩ = some p ∧ (set5 W B x y z p q).cell? ⟨B + 1, 1, none⟩ = some q := by
  have k1 := row_set (row_set (row_set h1 0 x) 1 y) 2 z
  have hne : B ≠ B + 1 := by omega
  have k2 : (((W.setCell ⟨B, 0, none⟩ x).setCell ⟨B, 1, none⟩ y).setCell ⟨B, 2, none⟩ z).heap[B + 1]? = some (.cells #[d, e] U (0, 0)) := by
    rw [Below.heap_setCell _ ⟨B, 2, none⟩ _ (B + 1) hne.symm, Below.heap_setCell _ ⟨B, 1, none⟩ _ (B + 1) hne.symm, Below.heap_setCell _ ⟨B, 0, none⟩ _ (B + 1) hne.symm]
    exact h2
  have k3 := row_set (row_set k2 0 p) 1 q
  have k4 : (set5 W B x y z p q).heap[B]? = _ := (Below.heap_setCell _ ⟨B + 1, 1, none⟩ q B hne).trans ((Below.heap_setCell _ ⟨B + 1, 0, none⟩ p B hne).trans k1)
  exact ⟨(row_cells k4 0).trans rfl, (row_cells k4 1).trans rfl, (row_cells k4 2).trans rfl, (row_cells k3 0).trans rfl, (row_cells k3 1).trans rfl⟩
theorem set5_below {base : Nat} {w W : World} {B : Nat} (h : Below base w W) (hB : base ≤ B) (x y z p q : Value) : Below base w (set5 W B x y z p q) :=
  ((((h.setCell (p := ⟨B, 0, none⟩) hB x).setCell (p := ⟨B, 1, none⟩) hB y).setCell (p := ⟨B, 2, none⟩) hB z).setCell (p := ⟨B + 1, 0, none⟩) (by show base ≤ B + 1; omega) p).setCell (p := ⟨B + 1, 1, none⟩) (by show base ≤ B + 1; omega) q
theorem endL_ltN : ∀ {l : List UInt8} {k : Nat}, endL l = some k → k < l.length
  | [], k, h => by cases h
  | [c], k, h => by
    by_cases e : c = 34
    · simp [endL, e] at h; simp; omega
    · simp [endL, e] at h
  | c :: d :: r, k, h => by
    unfold endL at h
    split at h
    · injection h with h; simp; omega
    · split at h
      · obtain ⟨j, h1, rfl⟩ := Option.map_eq_some_iff.1 h
        have := endL_ltN h1
        simp; omega
      · obtain ⟨j, h1, rfl⟩ := Option.map_eq_some_iff.1 h
        have := endL_ltN h1
        simp at this ⊢; omega
theorem ext_from (l : List UInt8) (i n : Nat) : (bs l).extract i (i + n) = bs ((l.drop i).take n) := by rw [bs_extract, List.drop_take]; congr 2; omega
set_option maxRecDepth 20000 in
set_option maxHeartbeats 8000000 in
theorem quoted_any (l : List UInt8) (i : Nat) (hi : i < l.length) (hl : l.length ≤ 200000) (w : World) (hT : TabU w) :
    Calls Tryz.prog 174 #[.string (bs l), .int .i64 (i : Int)] w fun e w' => e = nxR (quotedV l i) ∧ Below w.heap.size w w' := by
  have hsz : (bs l).size = l.length := bs_size l
  have HSZ := Lib.hid hsz
  have hle : (bs l).size ≤ 200000 := by omega
  have his : i + 1 ≤ (bs l).size := by omega
  have hex := ext_drop l (i + 1)
  have HT := Lib.hid (fun w' (h : Below w.heap.size w w') => hT.below h)
  have HCE := Lib.hid (ext_from l (i + 1))
  have hdl : (l.drop (i + 1)).length = l.length - (i + 1) := List.length_drop ..
  have HEND := Lib.hid (fun w => end_any (bs (l.drop (i + 1))) w (by rw [bs_size]; omega))
  rw [bs_data] at HEND
  have HX : Hid (∃ X, quotedV l i = X) := ⟨_, rfl⟩
  cases he : endL (l.drop (i + 1)) with
  | none =>
    have HR : Hid (quotedV l i = badN i 3) := by unfold Hid quotedV; rw [he]
    rw [endV_none he] at HEND
    clear he hT hdl hsz HX
    generalize bs l = S at *
    generalize bs (l.drop (i + 1)) = E at *
    go_enter Tryz.func174, Tryz.ntmps174
    go_upto_region 1 with (fail)
    refine wp_at_worldH ?_
    intro W hW
    have KA : Hid (W.heap[w.heap.size]? = some (.cells #[.int .i64 0, .string ⟨#[]⟩, .int .i64 0] 109 (0, 0))) := by rw [hW]; exact (Below.heap_alloc _ _ _ (by simp)).trans (row_new _ _ _)
    have KB : Hid (W.heap[w.heap.size + 1]? = some (.cells #[.int .i64 0, .int .i64 0] 111 (0, 0))) := by rw [hW]; exact row_new2 _ _ _ _
    have HB0 : Hid (Below w.heap.size w W) := by rw [hW]; exact ((Below.refl _ _).alloc (Nat.le_refl _) _).alloc (by simp) _
    clear hW
    go_wp2_with fail
    refine (HEND.out _).mono ?_
    rintro e _ ⟨rfl, rfl⟩
    have a0 := row_cells KA.out 0
    have a1 := row_cells KA.out 1
    have a2 := row_cells KA.out 2
    have b0 := row_cells KB.out 0
    have b1 := row_cells KB.out 1
    have fa0 := row_frozen KA.out 0
    have fa1 := row_frozen KA.out 1
    have fa2 := row_frozen KA.out 2
    have fb0 := row_frozen KB.out 0
    have fb1 := row_frozen KB.out 1
    go_wp2_with fail
    obtain ⟨y0, y1, y2, y3, y4⟩ := set5_cells KA.out KB.out (.int .i64 0) (.string ⟨#[]⟩) (.int .i64 0) (.int .i64 (i : Int)) (.int .i64 3)
    simp only [set5] at y0 y1 y2 y3 y4
    exact bodyPost_ret (v := .tuple #[.agg #[.int .i64 0, .string ⟨#[]⟩, .int .i64 0], .int .i64 0, .agg #[.int .i64 (i : Int), .int .i64 3]]) (by simp [results, Tryz.f174, go_sem, y0, y1, y2, y3, y4]) rfl ⟨by rw [HR.out]; simp only [nxR, badN]; rfl, set5_below HB0.out (Nat.le_refl _) _ _ _ _ _⟩
  | some n =>
    have hn := endL_ltN he
    rw [hdl] at hn
    rw [endV_some he] at HEND
    have hns : i + 1 + n ≤ (bs l).size := by omega
    have hce := HCE.out n
    have hul := unescV_len ((l.drop (i + 1)).take n)
    rw [List.length_take, hdl] at hul
    have HUN := Lib.hid (fun w => unescape_any ((l.drop (i + 1)).take n) w (by rw [List.length_take, hdl]; omega))
    have HQ : Hid (quotedV l i = if (unescV ((l.drop (i + 1)).take n)).2.2 ≠ 0 then badN (i + 1 + (unescV ((l.drop (i + 1)).take n)).2.1) 3
        else if 400 < (unescV ((l.drop (i + 1)).take n)).1.length then badN i 6
        else if Lib.validD (unescV ((l.drop (i + 1)).take n)).1 = false then badN i 4
        else ((2, (unescV ((l.drop (i + 1)).take n)).1, i), n + 2, 0, 0)) := by unfold Hid quotedV; rw [he]
    have hnb : n ≤ 200000 := by omega
    clear he hT hdl hsz HX HCE
    generalize unescV ((l.drop (i + 1)).take n) = X at *
    generalize bs ((l.drop (i + 1)).take n) = U at *
    generalize bs (l.drop (i + 1)) = E at *
    generalize bs l = S at *
    obtain ⟨x1, x2, x3⟩ := X
    simp only at HUN HQ hul
    have hx1s : (bs x1).size = x1.length := bs_size x1
    have hx1l : x1.length ≤ 200000 := by omega
    have hx2l : x2 ≤ 200000 := by omega
    have HVA := Lib.hid (fun w h => valid_any x1 hx1l w h)
    by_cases h3 : x3 = 0
    rotate_left
    · have HR : Hid (quotedV l i = badN (i + 1 + x2) 3) := by unfold Hid; rw [HQ.out, if_pos h3]
      have h3i : ((x3 : Int) == 0) = false := by simp only [beq_eq_false_iff_ne]; omega
      clear HQ h3 hul
      go_enter Tryz.func174, Tryz.ntmps174
      go_upto_region 1 with (fail)
      refine wp_at_worldH ?_
      intro W hW
      have KA : Hid (W.heap[w.heap.size]? = some (.cells #[.int .i64 0, .string ⟨#[]⟩, .int .i64 0] 109 (0, 0))) := by rw [hW]; exact (Below.heap_alloc _ _ _ (by simp)).trans (row_new _ _ _)
      have KB : Hid (W.heap[w.heap.size + 1]? = some (.cells #[.int .i64 0, .int .i64 0] 111 (0, 0))) := by rw [hW]; exact row_new2 _ _ _ _
      have HB0 : Hid (Below w.heap.size w W) := by rw [hW]; exact ((Below.refl _ _).alloc (Nat.le_refl _) _).alloc (by simp) _
      clear hW
      go_wp2_with fail
      refine (HEND.out _).mono ?_
      rintro e _ ⟨rfl, rfl⟩
      go_wp2_with fail
      refine (HUN.out _).mono ?_
      rintro e w2 ⟨rfl, hb2⟩
      have hzA : w.heap.size < W.heap.size := (Array.getElem?_eq_some_iff.1 KA.out).1
      have hzB : w.heap.size + 1 < W.heap.size := (Array.getElem?_eq_some_iff.1 KB.out).1
      replace KA : Hid (w2.heap[w.heap.size]? = some (.cells #[.int .i64 0, .string ⟨#[]⟩, .int .i64 0] 109 (0, 0))) := (hb2.block w.heap.size hzA).trans KA.out
      replace KB : Hid (w2.heap[w.heap.size + 1]? = some (.cells #[.int .i64 0, .int .i64 0] 111 (0, 0))) := (hb2.block (w.heap.size + 1) hzB).trans KB.out
      have HB2 : Hid (Below w.heap.size w w2) := HB0.out.trans (hb2.mono (by omega))
      clear hb2 hzA hzB
      have a0 := row_cells KA.out 0
      have a1 := row_cells KA.out 1
      have a2 := row_cells KA.out 2
      have b0 := row_cells KB.out 0
      have b1 := row_cells KB.out 1
      have fa0 := row_frozen KA.out 0
      have fa1 := row_frozen KA.out 1
      have fa2 := row_frozen KA.out 2
      have fb0 := row_frozen KB.out 0
      have fb1 := row_frozen KB.out 1
      go_wp2_with fail
      obtain ⟨y0, y1, y2, y3, y4⟩ := set5_cells KA.out KB.out (.int .i64 0) (.string ⟨#[]⟩) (.int .i64 0) (.int .i64 ((i : Int) + 1 + (x2 : Int))) (.int .i64 3)
      simp only [set5] at y0 y1 y2 y3 y4
      exact bodyPost_ret (v := .tuple #[.agg #[.int .i64 0, .string ⟨#[]⟩, .int .i64 0], .int .i64 0, .agg #[.int .i64 ((i : Int) + 1 + (x2 : Int)), .int .i64 3]]) (by simp [results, Tryz.f174, go_sem, y0, y1, y2, y3, y4]) rfl ⟨by rw [HR.out]; simp only [nxR, badN, Int.natCast_add]; rfl, set5_below HB2.out (Nat.le_refl _) _ _ _ _ _⟩
    subst h3
    rw [if_neg (by decide)] at HQ
    by_cases h4 : 400 < x1.length
    · have HR : Hid (quotedV l i = badN i 6) := by unfold Hid; rw [HQ.out, if_pos h4]
      have h4i : 400 < ((bs x1).size : Int) := by omega
      clear HQ h4 hul hx1s
      go_enter Tryz.func174, Tryz.ntmps174
      go_upto_region 1 with (fail)
      refine wp_at_worldH ?_
      intro W hW
      have KA : Hid (W.heap[w.heap.size]? = some (.cells #[.int .i64 0, .string ⟨#[]⟩, .int .i64 0] 109 (0, 0))) := by rw [hW]; exact (Below.heap_alloc _ _ _ (by simp)).trans (row_new _ _ _)
      have KB : Hid (W.heap[w.heap.size + 1]? = some (.cells #[.int .i64 0, .int .i64 0] 111 (0, 0))) := by rw [hW]; exact row_new2 _ _ _ _
      have HB0 : Hid (Below w.heap.size w W) := by rw [hW]; exact ((Below.refl _ _).alloc (Nat.le_refl _) _).alloc (by simp) _
      clear hW
      go_wp2_with fail
      refine (HEND.out _).mono ?_
      rintro e _ ⟨rfl, rfl⟩
      go_wp2_with fail
      refine (HUN.out _).mono ?_
      rintro e w2 ⟨rfl, hb2⟩
      have hzA : w.heap.size < W.heap.size := (Array.getElem?_eq_some_iff.1 KA.out).1
      have hzB : w.heap.size + 1 < W.heap.size := (Array.getElem?_eq_some_iff.1 KB.out).1
      replace KA : Hid (w2.heap[w.heap.size]? = some (.cells #[.int .i64 0, .string ⟨#[]⟩, .int .i64 0] 109 (0, 0))) := (hb2.block w.heap.size hzA).trans KA.out
      replace KB : Hid (w2.heap[w.heap.size + 1]? = some (.cells #[.int .i64 0, .int .i64 0] 111 (0, 0))) := (hb2.block (w.heap.size + 1) hzB).trans KB.out
      have HB2 : Hid (Below w.heap.size w w2) := HB0.out.trans (hb2.mono (by omega))
      clear hb2 hzA hzB
      have a0 := row_cells KA.out 0
      have a1 := row_cells KA.out 1
      have a2 := row_cells KA.out 2
      have b0 := row_cells KB.out 0
      have b1 := row_cells KB.out 1
      have fa0 := row_frozen KA.out 0
      have fa1 := row_frozen KA.out 1
      have fa2 := row_frozen KA.out 2
      have fb0 := row_frozen KB.out 0
      have fb1 := row_frozen KB.out 1
      go_wp2_with fail
      obtain ⟨y0, y1, y2, y3, y4⟩ := set5_cells KA.out KB.out (.int .i64 0) (.string ⟨#[]⟩) (.int .i64 0) (.int .i64 (i : Int)) (.int .i64 6)
      simp only [set5] at y0 y1 y2 y3 y4
      exact bodyPost_ret (v := .tuple #[.agg #[.int .i64 0, .string ⟨#[]⟩, .int .i64 0], .int .i64 0, .agg #[.int .i64 (i : Int), .int .i64 6]]) (by simp [results, Tryz.f174, go_sem, y0, y1, y2, y3, y4]) rfl ⟨by rw [HR.out]; simp only [nxR, badN]; rfl, set5_below HB2.out (Nat.le_refl _) _ _ _ _ _⟩
    have h4i : ¬ 400 < ((bs x1).size : Int) := by omega
    rw [if_neg h4] at HQ
    cases hv : Lib.validD x1
    · have HR : Hid (quotedV l i = badN i 4) := by unfold Hid; rw [HQ.out, if_pos hv]
      rw [hv] at HVA
      clear HQ h4 hul hx1s hv
      go_enter Tryz.func174, Tryz.ntmps174
      go_upto_region 1 with (fail)
      refine wp_at_worldH ?_
      intro W hW
      have KA : Hid (W.heap[w.heap.size]? = some (.cells #[.int .i64 0, .string ⟨#[]⟩, .int .i64 0] 109 (0, 0))) := by rw [hW]; exact (Below.heap_alloc _ _ _ (by simp)).trans (row_new _ _ _)
      have KB : Hid (W.heap[w.heap.size + 1]? = some (.cells #[.int .i64 0, .int .i64 0] 111 (0, 0))) := by rw [hW]; exact row_new2 _ _ _ _
      have HB0 : Hid (Below w.heap.size w W) := by rw [hW]; exact ((Below.refl _ _).alloc (Nat.le_refl _) _).alloc (by simp) _
      clear hW
      go_wp2_with fail
      refine (HEND.out _).mono ?_
      rintro e _ ⟨rfl, rfl⟩
      go_wp2_with fail
      refine (HUN.out _).mono ?_
      rintro e w2 ⟨rfl, hb2⟩
      have hzA : w.heap.size < W.heap.size := (Array.getElem?_eq_some_iff.1 KA.out).1
      have hzB : w.heap.size + 1 < W.heap.size := (Array.getElem?_eq_some_iff.1 KB.out).1
      replace KA : Hid (w2.heap[w.heap.size]? = some (.cells #[.int .i64 0, .string ⟨#[]⟩, .int .i64 0] 109 (0, 0))) := (hb2.block w.heap.size hzA).trans KA.out
      replace KB : Hid (w2.heap[w.heap.size + 1]? = some (.cells #[.int .i64 0, .int .i64 0] 111 (0, 0))) := (hb2.block (w.heap.size + 1) hzB).trans KB.out
      have HB2 : Hid (Below w.heap.size w w2) := HB0.out.trans (hb2.mono (by omega))
      clear hb2 hzA hzB
      go_wp2_with fail
      refine (HVA.out _ (HT.out _ HB2.out)).mono ?_
      rintro e w3 ⟨rfl, hb3⟩
      have hzA : w.heap.size < w2.heap.size := (Array.getElem?_eq_some_iff.1 KA.out).1
      have hzB : w.heap.size + 1 < w2.heap.size := (Array.getElem?_eq_some_iff.1 KB.out).1
      replace KA : Hid (w3.heap[w.heap.size]? = some (.cells #[.int .i64 0, .string ⟨#[]⟩, .int .i64 0] 109 (0, 0))) := (hb3.block w.heap.size hzA).trans KA.out
      replace KB : Hid (w3.heap[w.heap.size + 1]? = some (.cells #[.int .i64 0, .int .i64 0] 111 (0, 0))) := (hb3.block (w.heap.size + 1) hzB).trans KB.out
      have HB3 : Hid (Below w.heap.size w w3) := HB2.out.trans (hb3.mono (by omega))
      clear hb3 hzA hzB
      have a0 := row_cells KA.out 0
      have a1 := row_cells KA.out 1
      have a2 := row_cells KA.out 2
      have b0 := row_cells KB.out 0
      have b1 := row_cells KB.out 1
      have fa0 := row_frozen KA.out 0
      have fa1 := row_frozen KA.out 1
      have fa2 := row_frozen KA.out 2
      have fb0 := row_frozen KB.out 0
      have fb1 := row_frozen KB.out 1
      go_wp2_with fail
      obtain ⟨y0, y1, y2, y3, y4⟩ := set5_cells KA.out KB.out (.int .i64 0) (.string ⟨#[]⟩) (.int .i64 0) (.int .i64 (i : Int)) (.int .i64 4)
      simp only [set5] at y0 y1 y2 y3 y4
      exact bodyPost_ret (v := .tuple #[.agg #[.int .i64 0, .string ⟨#[]⟩, .int .i64 0], .int .i64 0, .agg #[.int .i64 (i : Int), .int .i64 4]]) (by simp [results, Tryz.f174, go_sem, y0, y1, y2, y3, y4]) rfl ⟨by rw [HR.out]; simp only [nxR, badN]; rfl, set5_below HB3.out (Nat.le_refl _) _ _ _ _ _⟩
    · have HR : Hid (quotedV l i = ((2, x1, i), n + 2, 0, 0)) := by unfold Hid; rw [HQ.out, if_neg (by rw [hv]; decide)]
      rw [hv] at HVA
      clear HQ h4 hul hx1s hv
      go_enter Tryz.func174, Tryz.ntmps174
      go_upto_region 1 with (fail)
      refine wp_at_worldH ?_
      intro W hW
      have KA : Hid (W.heap[w.heap.size]? = some (.cells #[.int .i64 0, .string ⟨#[]⟩, .int .i64 0] 109 (0, 0))) := by rw [hW]; exact (Below.heap_alloc _ _ _ (by simp)).trans (row_new _ _ _)
      have KB : Hid (W.heap[w.heap.size + 1]? = some (.cells #[.int .i64 0, .int .i64 0] 111 (0, 0))) := by rw [hW]; exact row_new2 _ _ _ _
      have HB0 : Hid (Below w.heap.size w W) := by rw [hW]; exact ((Below.refl _ _).alloc (Nat.le_refl _) _).alloc (by simp) _
      clear hW
      go_wp2_with fail
      refine (HEND.out _).mono ?_
      rintro e _ ⟨rfl, rfl⟩
      go_wp2_with fail
      refine (HUN.out _).mono ?_
      rintro e w2 ⟨rfl, hb2⟩
      have hzA : w.heap.size < W.heap.size := (Array.getElem?_eq_some_iff.1 KA.out).1
      have hzB : w.heap.size + 1 < W.heap.size := (Array.getElem?_eq_some_iff.1 KB.out).1
      replace KA : Hid (w2.heap[w.heap.size]? = some (.cells #[.int .i64 0, .string ⟨#[]⟩, .int .i64 0] 109 (0, 0))) := (hb2.block w.heap.size hzA).trans KA.out
      replace KB : Hid (w2.heap[w.heap.size + 1]? = some (.cells #[.int .i64 0, .int .i64 0] 111 (0, 0))) := (hb2.block (w.heap.size + 1) hzB).trans KB.out
      have HB2 : Hid (Below w.heap.size w w2) := HB0.out.trans (hb2.mono (by omega))
      clear hb2 hzA hzB
      go_wp2_with fail
      refine (HVA.out _ (HT.out _ HB2.out)).mono ?_
      rintro e w3 ⟨rfl, hb3⟩
      have hzA : w.heap.size < w2.heap.size := (Array.getElem?_eq_some_iff.1 KA.out).1
      have hzB : w.heap.size + 1 < w2.heap.size := (Array.getElem?_eq_some_iff.1 KB.out).1
      replace KA : Hid (w3.heap[w.heap.size]? = some (.cells #[.int .i64 0, .string ⟨#[]⟩, .int .i64 0] 109 (0, 0))) := (hb3.block w.heap.size hzA).trans KA.out
      replace KB : Hid (w3.heap[w.heap.size + 1]? = some (.cells #[.int .i64 0, .int .i64 0] 111 (0, 0))) := (hb3.block (w.heap.size + 1) hzB).trans KB.out
      have HB3 : Hid (Below w.heap.size w w3) := HB2.out.trans (hb3.mono (by omega))
      clear hb3 hzA hzB
      have a0 := row_cells KA.out 0
      have a1 := row_cells KA.out 1
      have a2 := row_cells KA.out 2
      have b0 := row_cells KB.out 0
      have b1 := row_cells KB.out 1
      have fa0 := row_frozen KA.out 0
      have fa1 := row_frozen KA.out 1
      have fa2 := row_frozen KA.out 2
      have fb0 := row_frozen KB.out 0
      have fb1 := row_frozen KB.out 1
      go_wp2_with fail
      obtain ⟨y0, y1, y2, y3, y4⟩ := set5_cells KA.out KB.out (.int .i64 2) (.string (bs x1)) (.int .i64 (i : Int)) (.int .i64 0) (.int .i64 0)
      simp only [set5] at y0 y1 y2 y3 y4
      exact bodyPost_ret (v := .tuple #[.agg #[.int .i64 2, .string (bs x1), .int .i64 (i : Int)], .int .i64 ((n : Int) + 2), .agg #[.int .i64 0, .int .i64 0]]) (by simp [results, Tryz.f174, go_sem, y0, y1, y2, y3, y4]) rfl ⟨by rw [HR.out]; simp only [nxR, Int.natCast_add]; rfl, set5_below HB3.out (Nat.le_refl _) _ _ _ _ _⟩
set_option maxRecDepth 20000 in
set_option maxHeartbeats 8000000 in
theorem next_any (l : List UInt8) (i : Nat) (hi : i < l.length) (hl : l.length ≤ 200000) (w : World) (hT : TabU w) :
    Calls Tryz.prog 117 #[.string (bs l), .int .i64 (i : Int)] w fun e w' => e = nxR (nextV l i) ∧ Below w.heap.size w w' := by
  have hsz : (bs l).size = l.length := bs_size l
  have hle : (bs l).size ≤ 200000 := by omega
  have his : i < (bs l).size := by omega
  have hix : ∀ g : i < (bs l).size, (bs l)[i]'g = l.getD i 0 := fun g => ba_at l g
  have he1 : (bs l).extract i (i + 1) = bs [l.getD i 0] := ext_one l hi
  have hex := ext_drop l i
  have HEN := Lib.hid (ext_from l i)
  have HT := Lib.hid (fun w' (h : Below w.heap.size w w') => hT.below h)
  have HIN : Hid (∀ w, Calls Tryz.prog 172 #[.int .u8 ((l.getD i 0).toNat : Int), .string ⟨#[123, 125, 59]⟩] w fun e w' => e = .returned (.bool (decide (l.getD i 0 ∈ marksL))) ∧ w = w') := fun w => in_any _ marksL w
  have HQT := Lib.hid (fun w h => quoted_any l i hi hl w h)
  have hdl : (l.drop i).length = l.length - i := List.length_drop ..
  have HRN : Hid (∀ w, Calls Tryz.prog 168 #[.string (bs (l.drop i)), .string ⟨#[65, 66, 67, 68, 69, 70, 71, 72, 73, 74, 75, 76, 77, 78, 79, 80, 81, 82, 83, 84, 85, 86, 87, 88, 89, 90, 97, 98, 99, 100, 101, 102, 103, 104, 105, 106, 107, 108, 109, 110, 111, 112, 113, 114, 115, 116, 117, 118, 119, 120, 121, 122, 48, 49, 50, 51, 52, 53, 54, 55, 56, 57, 45, 95]⟩] w fun e w' => e = .returned (.int .i64 (wordLen (l.drop i) : Int)) ∧ Below w.heap.size w w') := fun w => run_any (l.drop i) (by omega) w
  have hwl := wordLen_le (l.drop i)
  have HN : Hid (nextV l i = if l.getD i 0 ∈ marksL then ((3, [l.getD i 0], i), 1, 0, 0) else if l.getD i 0 = 34 then quotedV l i else if wordLen (l.drop i) = 0 then badN i 3 else if 40 < wordLen (l.drop i) then badN i 6 else ((1, (l.drop i).take (wordLen (l.drop i)), i), wordLen (l.drop i), 0, 0)) := rfl
  have hce := HEN.out (wordLen (l.drop i))
  have hwb : wordLen (l.drop i) ≤ 200000 := by omega
  have hws : i + wordLen (l.drop i) ≤ (bs l).size := by omega
  have hib : i ≤ 200000 := by omega
  clear hT HEN hdl hwl
  generalize l.getD i 0 = c at *
  generalize hwd : wordLen (l.drop i) = n at *
  generalize bs (l.drop i) = E at *
  generalize bs l = S at *
  clear hwd
  by_cases hm : c ∈ marksL
  · have HR : Hid (nextV l i = ((3, [c], i), 1, 0, 0)) := by unfold Hid; rw [HN.out, if_pos hm]
    rw [decide_eq_true hm] at HIN
    clear HN hm hsz
    go_enter Tryz.func117, Tryz.ntmps117
    go_upto_region 1 with (fail)
    refine wp_at_worldH ?_
    intro W hW
    have KA : Hid (W.heap[w.heap.size]? = some (.cells #[.int .i64 0, .string ⟨#[]⟩, .int .i64 0] 109 (0, 0))) := by rw [hW]; exact (Below.heap_alloc _ _ _ (by simp)).trans (row_new _ _ _)
    have KB : Hid (W.heap[w.heap.size + 1]? = some (.cells #[.int .i64 0, .int .i64 0] 111 (0, 0))) := by rw [hW]; exact row_new2 _ _ _ _
    have HB0 : Hid (Below w.heap.size w W) := by rw [hW]; exact ((Below.refl _ _).alloc (Nat.le_refl _) _).alloc (by simp) _
    clear hW
    go_wp2_with fail
    refine (HIN.out _).mono ?_
    rintro e _ ⟨rfl, rfl⟩
    have a0 := row_cells KA.out 0
    have a1 := row_cells KA.out 1
    have a2 := row_cells KA.out 2
    have b0 := row_cells KB.out 0
    have b1 := row_cells KB.out 1
    have fa0 := row_frozen KA.out 0
    have fa1 := row_frozen KA.out 1
    have fa2 := row_frozen KA.out 2
    have fb0 := row_frozen KB.out 0
    have fb1 := row_frozen KB.out 1
    go_wp2_with fail
    obtain ⟨y0, y1, y2, y3, y4⟩ := set5_cells KA.out KB.out (.int .i64 3) (.string (bs [c])) (.int .i64 (i : Int)) (.int .i64 0) (.int .i64 0)
    simp only [set5] at y0 y1 y2 y3 y4
    exact bodyPost_ret (v := .tuple #[.agg #[.int .i64 3, .string (bs [c]), .int .i64 (i : Int)], .int .i64 1, .agg #[.int .i64 0, .int .i64 0]]) (by simp [results, Tryz.f117, go_sem, y0, y1, y2, y3, y4]) rfl ⟨by rw [HR.out]; simp only [nxR]; rfl, set5_below HB0.out (Nat.le_refl _) _ _ _ _ _⟩
  rw [decide_eq_false hm] at HIN
  rw [if_neg hm] at HN
  by_cases h34 : c = 34
  · subst h34
    rw [if_pos rfl] at HN
    obtain ⟨X, hX⟩ : ∃ X, quotedV l i = X := ⟨_, rfl⟩
    rw [hX] at HN HQT
    clear hX hm hsz
    obtain ⟨⟨x1, x2, x3⟩, x4, x5, x6⟩ := X
    simp only [nxR] at HQT
    go_enter Tryz.func117, Tryz.ntmps117
    go_upto_region 1 with (fail)
    refine wp_at_worldH ?_
    intro W hW
    have KA : Hid (W.heap[w.heap.size]? = some (.cells #[.int .i64 0, .string ⟨#[]⟩, .int .i64 0] 109 (0, 0))) := by rw [hW]; exact (Below.heap_alloc _ _ _ (by simp)).trans (row_new _ _ _)
    have KB : Hid (W.heap[w.heap.size + 1]? = some (.cells #[.int .i64 0, .int .i64 0] 111 (0, 0))) := by rw [hW]; exact row_new2 _ _ _ _
    have HB0 : Hid (Below w.heap.size w W) := by rw [hW]; exact ((Below.refl _ _).alloc (Nat.le_refl _) _).alloc (by simp) _
    clear hW
    go_wp2_with fail
    refine (HIN.out _).mono ?_
    rintro e _ ⟨rfl, rfl⟩
    go_wp2_with fail
    refine (HQT.out _ (HT.out _ HB0.out)).mono ?_
    rintro e w2 ⟨rfl, hb2⟩
    have hzA : w.heap.size < W.heap.size := (Array.getElem?_eq_some_iff.1 KA.out).1
    have hzB : w.heap.size + 1 < W.heap.size := (Array.getElem?_eq_some_iff.1 KB.out).1
    replace KA : Hid (w2.heap[w.heap.size]? = some (.cells #[.int .i64 0, .string ⟨#[]⟩, .int .i64 0] 109 (0, 0))) := (hb2.block w.heap.size hzA).trans KA.out
    replace KB : Hid (w2.heap[w.heap.size + 1]? = some (.cells #[.int .i64 0, .int .i64 0] 111 (0, 0))) := (hb2.block (w.heap.size + 1) hzB).trans KB.out
    have HB2 : Hid (Below w.heap.size w w2) := HB0.out.trans (hb2.mono (by omega))
    clear hb2 hzA hzB
    have a0 := row_cells KA.out 0
    have a1 := row_cells KA.out 1
    have a2 := row_cells KA.out 2
    have b0 := row_cells KB.out 0
    have b1 := row_cells KB.out 1
    have fa0 := row_frozen KA.out 0
    have fa1 := row_frozen KA.out 1
    have fa2 := row_frozen KA.out 2
    have fb0 := row_frozen KB.out 0
    have fb1 := row_frozen KB.out 1
    go_wp2_with fail
    obtain ⟨y0, y1, y2, y3, y4⟩ := set5_cells KA.out KB.out (.int .i64 (x1 : Int)) (.string (bs x2)) (.int .i64 (x3 : Int)) (.int .i64 (x5 : Int)) (.int .i64 (x6 : Int))
    simp only [set5] at y0 y1 y2 y3 y4
    exact bodyPost_ret (v := .tuple #[.agg #[.int .i64 (x1 : Int), .string (bs x2), .int .i64 (x3 : Int)], .int .i64 (x4 : Int), .agg #[.int .i64 (x5 : Int), .int .i64 (x6 : Int)]]) (by simp [results, Tryz.f117, go_sem, y0, y1, y2, y3, y4]) rfl ⟨by rw [HN.out]; simp only [nxR], set5_below HB2.out (Nat.le_refl _) _ _ _ _ _⟩
  have g34 : ((c.toNat : Int) == 34) = false := neU h34
  rw [if_neg h34] at HN
  by_cases h0 : n = 0
  · have HR : Hid (nextV l i = badN i 3) := by unfold Hid; rw [HN.out, if_pos h0]
    have h0i : (n : Int) = 0 := by omega
    clear HN hm hsz h34 h0
    go_enter Tryz.func117, Tryz.ntmps117
    go_upto_region 1 with (fail)
    refine wp_at_worldH ?_
    intro W hW
    have KA : Hid (W.heap[w.heap.size]? = some (.cells #[.int .i64 0, .string ⟨#[]⟩, .int .i64 0] 109 (0, 0))) := by rw [hW]; exact (Below.heap_alloc _ _ _ (by simp)).trans (row_new _ _ _)
    have KB : Hid (W.heap[w.heap.size + 1]? = some (.cells #[.int .i64 0, .int .i64 0] 111 (0, 0))) := by rw [hW]; exact row_new2 _ _ _ _
    have HB0 : Hid (Below w.heap.size w W) := by rw [hW]; exact ((Below.refl _ _).alloc (Nat.le_refl _) _).alloc (by simp) _
    clear hW
    go_wp2_with fail
    refine (HIN.out _).mono ?_
    rintro e _ ⟨rfl, rfl⟩
    go_wp2_with fail
    refine (HRN.out _).mono ?_
    rintro e w2 ⟨rfl, hb2⟩
    have hzA : w.heap.size < W.heap.size := (Array.getElem?_eq_some_iff.1 KA.out).1
    have hzB : w.heap.size + 1 < W.heap.size := (Array.getElem?_eq_some_iff.1 KB.out).1
    replace KA : Hid (w2.heap[w.heap.size]? = some (.cells #[.int .i64 0, .string ⟨#[]⟩, .int .i64 0] 109 (0, 0))) := (hb2.block w.heap.size hzA).trans KA.out
    replace KB : Hid (w2.heap[w.heap.size + 1]? = some (.cells #[.int .i64 0, .int .i64 0] 111 (0, 0))) := (hb2.block (w.heap.size + 1) hzB).trans KB.out
    have HB2 : Hid (Below w.heap.size w w2) := HB0.out.trans (hb2.mono (by omega))
    clear hb2 hzA hzB
    have a0 := row_cells KA.out 0
    have a1 := row_cells KA.out 1
    have a2 := row_cells KA.out 2
    have b0 := row_cells KB.out 0
    have b1 := row_cells KB.out 1
    have fa0 := row_frozen KA.out 0
    have fa1 := row_frozen KA.out 1
    have fa2 := row_frozen KA.out 2
    have fb0 := row_frozen KB.out 0
    have fb1 := row_frozen KB.out 1
    go_wp2_with fail
    obtain ⟨y0, y1, y2, y3, y4⟩ := set5_cells KA.out KB.out (.int .i64 0) (.string ⟨#[]⟩) (.int .i64 0) (.int .i64 (i : Int)) (.int .i64 3)
    simp only [set5] at y0 y1 y2 y3 y4
    exact bodyPost_ret (v := .tuple #[.agg #[.int .i64 0, .string ⟨#[]⟩, .int .i64 0], .int .i64 0, .agg #[.int .i64 (i : Int), .int .i64 3]]) (by simp [results, Tryz.f117, go_sem, y0, y1, y2, y3, y4]) rfl ⟨by rw [HR.out]; simp only [nxR, badN]; rfl, set5_below HB2.out (Nat.le_refl _) _ _ _ _ _⟩
  have h0i : ((n : Int) == 0) = false := by simp only [beq_eq_false_iff_ne]; omega
  rw [if_neg h0] at HN
  by_cases h40 : 40 < n
  · have HR : Hid (nextV l i = badN i 6) := by unfold Hid; rw [HN.out, if_pos h40]
    have h4i : 40 < (n : Int) := by omega
    clear HN hm hsz h34 h0
    go_enter Tryz.func117, Tryz.ntmps117
    go_upto_region 1 with (fail)
    refine wp_at_worldH ?_
    intro W hW
    have KA : Hid (W.heap[w.heap.size]? = some (.cells #[.int .i64 0, .string ⟨#[]⟩, .int .i64 0] 109 (0, 0))) := by rw [hW]; exact (Below.heap_alloc _ _ _ (by simp)).trans (row_new _ _ _)
    have KB : Hid (W.heap[w.heap.size + 1]? = some (.cells #[.int .i64 0, .int .i64 0] 111 (0, 0))) := by rw [hW]; exact row_new2 _ _ _ _
    have HB0 : Hid (Below w.heap.size w W) := by rw [hW]; exact ((Below.refl _ _).alloc (Nat.le_refl _) _).alloc (by simp) _
    clear hW
    go_wp2_with fail
    refine (HIN.out _).mono ?_
    rintro e _ ⟨rfl, rfl⟩
    go_wp2_with fail
    refine (HRN.out _).mono ?_
    rintro e w2 ⟨rfl, hb2⟩
    have hzA : w.heap.size < W.heap.size := (Array.getElem?_eq_some_iff.1 KA.out).1
    have hzB : w.heap.size + 1 < W.heap.size := (Array.getElem?_eq_some_iff.1 KB.out).1
    replace KA : Hid (w2.heap[w.heap.size]? = some (.cells #[.int .i64 0, .string ⟨#[]⟩, .int .i64 0] 109 (0, 0))) := (hb2.block w.heap.size hzA).trans KA.out
    replace KB : Hid (w2.heap[w.heap.size + 1]? = some (.cells #[.int .i64 0, .int .i64 0] 111 (0, 0))) := (hb2.block (w.heap.size + 1) hzB).trans KB.out
    have HB2 : Hid (Below w.heap.size w w2) := HB0.out.trans (hb2.mono (by omega))
    clear hb2 hzA hzB
    have a0 := row_cells KA.out 0
    have a1 := row_cells KA.out 1
    have a2 := row_cells KA.out 2
    have b0 := row_cells KB.out 0
    have b1 := row_cells KB.out 1
    have fa0 := row_frozen KA.out 0
    have fa1 := row_frozen KA.out 1
    have fa2 := row_frozen KA.out 2
    have fb0 := row_frozen KB.out 0
    have fb1 := row_frozen KB.out 1
    go_wp2_with fail
    obtain ⟨y0, y1, y2, y3, y4⟩ := set5_cells KA.out KB.out (.int .i64 0) (.string ⟨#[]⟩) (.int .i64 0) (.int .i64 (i : Int)) (.int .i64 6)
    simp only [set5] at y0 y1 y2 y3 y4
    exact bodyPost_ret (v := .tuple #[.agg #[.int .i64 0, .string ⟨#[]⟩, .int .i64 0], .int .i64 0, .agg #[.int .i64 (i : Int), .int .i64 6]]) (by simp [results, Tryz.f117, go_sem, y0, y1, y2, y3, y4]) rfl ⟨by rw [HR.out]; simp only [nxR, badN]; rfl, set5_below HB2.out (Nat.le_refl _) _ _ _ _ _⟩
  have h4i : ¬ 40 < (n : Int) := by omega
  have HR : Hid (nextV l i = ((1, (l.drop i).take n, i), n, 0, 0)) := by unfold Hid; rw [HN.out, if_neg h40]
  obtain ⟨V, hV⟩ : ∃ V, bs ((l.drop i).take n) = V := ⟨_, rfl⟩
  have HV := Lib.hid hV
  rw [hV] at hce
  clear HN hm hsz h34 h0 hV
  go_enter Tryz.func117, Tryz.ntmps117
  go_upto_region 1 with (fail)
  refine wp_at_worldH ?_
  intro W hW
  have KA : Hid (W.heap[w.heap.size]? = some (.cells #[.int .i64 0, .string ⟨#[]⟩, .int .i64 0] 109 (0, 0))) := by rw [hW]; exact (Below.heap_alloc _ _ _ (by simp)).trans (row_new _ _ _)
  have KB : Hid (W.heap[w.heap.size + 1]? = some (.cells #[.int .i64 0, .int .i64 0] 111 (0, 0))) := by rw [hW]; exact row_new2 _ _ _ _
  have HB0 : Hid (Below w.heap.size w W) := by rw [hW]; exact ((Below.refl _ _).alloc (Nat.le_refl _) _).alloc (by simp) _
  clear hW
  go_wp2_with fail
  refine (HIN.out _).mono ?_
  rintro e _ ⟨rfl, rfl⟩
  go_wp2_with fail
  refine (HRN.out _).mono ?_
  rintro e w2 ⟨rfl, hb2⟩
  have hzA : w.heap.size < W.heap.size := (Array.getElem?_eq_some_iff.1 KA.out).1
  have hzB : w.heap.size + 1 < W.heap.size := (Array.getElem?_eq_some_iff.1 KB.out).1
  replace KA : Hid (w2.heap[w.heap.size]? = some (.cells #[.int .i64 0, .string ⟨#[]⟩, .int .i64 0] 109 (0, 0))) := (hb2.block w.heap.size hzA).trans KA.out
  replace KB : Hid (w2.heap[w.heap.size + 1]? = some (.cells #[.int .i64 0, .int .i64 0] 111 (0, 0))) := (hb2.block (w.heap.size + 1) hzB).trans KB.out
  have HB2 : Hid (Below w.heap.size w w2) := HB0.out.trans (hb2.mono (by omega))
  clear hb2 hzA hzB
  have a0 := row_cells KA.out 0
  have a1 := row_cells KA.out 1
  have a2 := row_cells KA.out 2
  have b0 := row_cells KB.out 0
  have b1 := row_cells KB.out 1
  have fa0 := row_frozen KA.out 0
  have fa1 := row_frozen KA.out 1
  have fa2 := row_frozen KA.out 2
  have fb0 := row_frozen KB.out 0
  have fb1 := row_frozen KB.out 1
  go_wp2_with fail
  obtain ⟨y0, y1, y2, y3, y4⟩ := set5_cells KA.out KB.out (.int .i64 1) (.string V) (.int .i64 (i : Int)) (.int .i64 0) (.int .i64 0)
  simp only [set5] at y0 y1 y2 y3 y4
  exact bodyPost_ret (v := .tuple #[.agg #[.int .i64 1, .string V, .int .i64 (i : Int)], .int .i64 (n : Int), .agg #[.int .i64 0, .int .i64 0]]) (by simp [results, Tryz.f117, go_sem, y0, y1, y2, y3, y4]) rfl ⟨by rw [HR.out]; simp only [nxR]; rw [HV.out]; rfl, set5_below HB2.out (Nat.le_refl _) _ _ _ _ _⟩
end Go.Proofs.YtmleeodfmmpdgaaGreatDoor
