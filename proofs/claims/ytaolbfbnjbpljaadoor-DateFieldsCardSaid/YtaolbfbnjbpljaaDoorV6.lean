/- Walks: the fields of a pattern, by the program. -/
import Derived.Test.YtaolbfbnjbpljaaDoorV3
import Derived.Shelf.Strings.SlTrimAscii
namespace Go.Proofs.YtaolbfbnjbpljaaDoor
open Go.RowKit
attribute [local go_sem] Ext.cell Ext.frozen
attribute [local go_sem ↓] Go.wp_at_zero Go.wp_at_succ

def lettersL : List UInt8 := [65, 66, 67, 68, 69, 70, 71, 72, 73, 74, 75, 76, 77, 78, 79, 80, 81, 82, 83, 84, 85, 86, 87, 88, 89, 90, 97, 98, 99, 100, 101, 102, 103, 104, 105, 106, 107, 108, 109, 110, 111, 112, 113, 114, 115, 116, 117, 118, 119, 120, 121, 122]
theorem letter_mem (c : UInt8) : lettersL.contains c = isL c := by
  have h : ∀ n : Fin 256, lettersL.contains (UInt8.ofNat n.1) = isL (UInt8.ofNat n.1) := by decide +kernel
  have := h ⟨c.toNat, c.toNat_lt⟩
  simpa using this
theorem trimLetters (s : ByteArray) (w : World) :
    Calls Tryd.prog 27 #[.string s, .string ⟨#[65, 66, 67, 68, 69, 70, 71, 72, 73, 74, 75, 76, 77, 78, 79, 80, 81, 82, 83, 84, 85, 86, 87, 88, 89, 90, 97, 98, 99, 100, 101, 102, 103, 104, 105, 106, 107, 108, 109, 110, 111, 112, 113, 114, 115, 116, 117, 118, 119, 120, 121, 122]⟩] w fun e w' => e = .returned (.string (bs (s.data.toList.dropWhile isL))) ∧ Below w.heap.size w w' :=
  (Any.strings_TrimLeft_laid Tryd.lays161 (by kernel_rfl) s ⟨#[65, 66, 67, 68, 69, 70, 71, 72, 73, 74, 75, 76, 77, 78, 79, 80, 81, 82, 83, 84, 85, 86, 87, 88, 89, 90, 97, 98, 99, 100, 101, 102, 103, 104, 105, 106, 107, 108, 109, 110, 111, 112, 113, 114, 115, 116, 117, 118, 119, 120, 121, 122]⟩ w (by decide) (ascii_of_all (by decide))).mono fun e w' ⟨he, hw⟩ => ⟨by
    rw [he]
    have e1 : Lib.trimLeftS s.data.toList lettersL = s.data.toList.dropWhile isL := by
      unfold Lib.trimLeftS; congr 1; funext x; exact letter_mem x
    rw [← e1]; rfl, hw⟩

theorem runsV_nil (n : Nat) : runsV n [] = some [] := by cases n <;> rfl
theorem runsV_skip {n : Nat} {c : UInt8} {s : List UInt8} (h : (c :: s).takeWhile isL = []) : runsV (n + 1) (c :: s) = runsV n s := by rw [runsV, if_pos h]
theorem runsV_take {n : Nat} {c : UInt8} {s : List UInt8} (h : (c :: s).takeWhile isL ≠ []) (hf : isFld ((c :: s).takeWhile isL) = true) :
    runsV (n + 1) (c :: s) = (runsV n ((c :: s).dropWhile isL)).map (((c :: s).takeWhile isL) :: ·) := by rw [runsV, if_neg h, if_pos hf]
theorem runsV_fail {n : Nat} {c : UInt8} {s : List UInt8} (h : (c :: s).takeWhile isL ≠ []) (hf : isFld ((c :: s).takeWhile isL) = false) :
    runsV (n + 1) (c :: s) = none := by rw [runsV, if_neg h, if_neg (by rw [hf]; simp)]
def strLen : Value → Nat
  | .string s => s.size
  | _ => 0

/-- what runs answers -/
def RunsPost (s : List UInt8) (w : World) (e : Ending) (w' : World) : Prop :=
  Below w.heap.size w w' ∧ ((runsV s.length s = none ∧ e = .returned (.tuple #[.slice none 0 0, .bool false])) ∨
    ∃ fs ad c, runsV s.length s = some fs ∧ fs.length ≤ s.length ∧ (∀ f ∈ fs, isFld f = true) ∧ e = .returned (.tuple #[.slice ad fs.length c, .bool true]) ∧ w'.ownsRow w.heap.size 9 1 (.slice ad fs.length c) fs.length (strs (fs.map bs)))

set_option maxRecDepth 20000 in
set_option maxHeartbeats 8000000 in
theorem runs_any (s : ByteArray) (w : World) (hs : s.size ≤ 1000) : Calls Tryd.prog 31 #[.string s] w (RunsPost s.data.toList w) := by
  have HF := Lib.hid field_any
  have HT := Lib.hid trimLetters
  have hsl : s.data.toList.length = s.size := size_len s
  go_enter Tryd.func31, Tryd.ntmps31
  go_wp2_with fail
  go_loopw [0, 4] (fun p v wr => ∃ (n : Nat) (o : List (List UInt8)) (rr : List UInt8) (ad : Option Addr) (c : Nat), rr.length ≤ n ∧ o.length + rr.length ≤ s.size ∧ runsV s.data.toList.length s.data.toList = (runsV n rr).map (o ++ ·) ∧ (∀ f ∈ o, isFld f = true) ∧ p = .string (bs rr) ∧
      v = .slice ad o.length c ∧ wr.ownsRow w.heap.size 9 1 (.slice ad o.length c) o.length (strs (o.map bs)) ∧ Below w.heap.size w wr) (fun p _ _ => strLen p)
  case atStart => exact ⟨_, [], s.data.toList, none, 0, Nat.le_refl _, by rw [hsl]; simp, by simp, by simp, rfl, rfl, World.ownsRow_nil _ _ _ _, Below.refl _ _⟩
  case round =>
    obtain ⟨n, o, rr, ad, c, hn, hol, hr, hof, rfl, rfl, hown, hbl⟩ := hrel
    have HR := Lib.hid hr
    have HOF := Lib.hid hof
    have HOWN := Lib.hid hown
    have HBL := Lib.hid hbl
    have hzr := hbl.size
    clear hr hof hown hbl
    cases rr with
    | nil =>
      have HV : Hid (runsV s.data.toList.length s.data.toList = some o) := by unfold Hid; rw [HR.out, runsV_nil]; simp
      have e0 : bs ([] : List UInt8) = ⟨#[]⟩ := rfl
      rw [e0]
      go_wp2_with fail
      go_ret2
      exact ⟨HBL.out, .inr ⟨o, ad, c, HV.out, by rw [hsl]; omega, HOF.out, rfl, HOWN.out⟩⟩
    | cons c0 r0 =>
      obtain ⟨n, rfl⟩ : ∃ m, n = m + 1 := ⟨n - 1, by simp at hn; omega⟩
      have HTK := Lib.hid (fun w => HT.out (bs (c0 :: r0)) w)
      rw [bs_data] at HTK
      have hsp : c0 :: r0 = (c0 :: r0).takeWhile isL ++ (c0 :: r0).dropWhile isL := (List.takeWhile_append_dropWhile ..).symm
      have hll := congrArg List.length hsp
      rw [List.length_append] at hll
      have hex : (bs (c0 :: r0)).extract 0 ((c0 :: r0).takeWhile isL).length = bs ((c0 :: r0).takeWhile isL) := by
        rw [bs_extract, List.drop_zero]
        conv => lhs; arg 1; arg 2; rw [hsp]
        rw [List.take_left]
      have hex1 : (bs (c0 :: r0)).extract 1 (bs (c0 :: r0)).size = bs r0 := by
        rw [bs_extract, List.take_of_length_le (by rw [bs_size]; exact Nat.le_refl _)]; rfl
      have HSK := Lib.hid (fun h => runsV_skip (n := n) (c := c0) (s := r0) h)
      have HTA := Lib.hid (fun h1 h2 => runsV_take (n := n) (c := c0) (s := r0) h1 h2)
      have HFA := Lib.hid (fun h1 h2 => runsV_fail (n := n) (c := c0) (s := r0) h1 h2)
      have HFD := Lib.hid (fun w => HF.out (bs ((c0 :: r0).takeWhile isL)) w)
      rw [bs_data] at HFD
      have r1 : (bs (c0 :: r0)).size = (c0 :: r0).length := bs_size _
      have r2 : (bs ((c0 :: r0).dropWhile isL)).size = ((c0 :: r0).dropWhile isL).length := bs_size _
      have r3 : (bs ((c0 :: r0).takeWhile isL)).size = ((c0 :: r0).takeWhile isL).length := bs_size _
      have r8 : (bs r0).size = r0.length := bs_size _
      rw [List.length_cons] at hn hol
      have r9 : (c0 :: r0).length = r0.length + 1 := List.length_cons
      have hneR : (bs (c0 :: r0)).toList.isEmpty = false := by rw [bs_toList]; rfl
      have hneR2 : ¬ bs (c0 :: r0) = ⟨#[]⟩ := fun e => by have := congrArg (fun s : ByteArray => s.data.toList) e; rw [bs_data] at this; cases this
      clear hsp
      generalize hP : (c0 :: r0).takeWhile isL = P at *
      generalize hS : (c0 :: r0).dropWhile isL = S at *
      have r4 : ((bs (c0 :: r0)).size : Int) - ((bs S).size : Int) = ((bs P).size : Int) := by omega
      have r5 : (bs P).size ≤ (bs (c0 :: r0)).size := by omega
      have r6 : (bs (c0 :: r0)).size ≤ 1000 := by omega
      have r7 : (bs S).size ≤ (bs (c0 :: r0)).size := by omega
      have r10 : 1 ≤ (bs (c0 :: r0)).size := by omega
      rw [← r3] at hex
      cases P with
      | nil =>
        have e0 : bs ([] : List UInt8) = ⟨#[]⟩ := rfl
        rw [e0] at hex r4 r5
        have HR2 : Hid (runsV s.data.toList.length s.data.toList = (runsV n r0).map (o ++ ·)) := by unfold Hid; rw [HR.out, HSK.out rfl]
        have hz0 : (ByteArray.mk #[]).size = 0 := rfl
        rw [hz0] at hex r4
        have hms : (bs r0).size < (bs (c0 :: r0)).size := by omega
        clear HSK HTA HFA HFD r1 r2 r3 hll hP hS e0 hz0 r8 r9 hsl HR
        generalize bs (c0 :: r0) = R at *
        generalize hR0 : bs r0 = R0 at *
        have HR0 := Lib.hid hR0
        clear hR0
        generalize bs S = S2 at *
        go_wp2_with fail
        refine (Calls.toExt (HTK.out _)).mono ?_
        rintro e _ ⟨rfl, x, rfl⟩
        go_wp2_with fail
        go_roundw
        case rel => exact ⟨n, o, r0, ad, c, by omega, by omega, HR2.out, HOF.out, by rw [HR0.out], rfl, Own.below HOWN.out x.2, HBL.out.trans (x.2.mono hzr)⟩
        case measure => exact hms
      | cons p0 P1 =>
        have hne : (bs (p0 :: P1)).toList.isEmpty = false := by rw [bs_toList]; rfl
        have hne2 : ¬ bs (p0 :: P1) = ⟨#[]⟩ := fun e => by have := congrArg (fun s : ByteArray => s.data.toList) e; rw [bs_data] at this; cases this
        cases hfl : isFld (p0 :: P1) with
        | false =>
          have HV : Hid (runsV s.data.toList.length s.data.toList = none) := by unfold Hid; rw [HR.out, HFA.out (by simp) hfl]; rfl
          rw [hfl] at HFD
          clear HSK HTA HFA r1 r2 r3 hll hP hS hfl r8 r9 hsl HR
          generalize bs (p0 :: P1) = FB at *
          generalize bs (c0 :: r0) = R at *
          generalize bs S = S2 at *
          go_wp2_with fail
          refine (Calls.toExt (HTK.out _)).mono ?_
          rintro e _ ⟨rfl, x, rfl⟩
          have hzx := x.2.size
          go_wp2_with fail
          refine (Calls.toExt (HFD.out _)).mono ?_
          rintro e _ ⟨rfl, y, rfl⟩
          go_wp2_with fail
          go_ret2
          exact ⟨(HBL.out.trans (x.2.mono hzr)).trans (y.2.mono (by omega)), .inl ⟨HV.out, rfl⟩⟩
        | true =>
          have HR2 : Hid (runsV s.data.toList.length s.data.toList = (runsV n S).map ((o ++ [p0 :: P1]) ++ ·)) := by
            unfold Hid
            rw [HR.out, HTA.out (by simp) hfl, Option.map_map]
            congr 1
            funext z
            simp
          have HOF2 : Hid (∀ f ∈ o ++ [p0 :: P1], isFld f = true) := fun f hm => by
            rcases List.mem_append.1 hm with hm | hm
            · exact HOF.out f hm
            · rw [List.mem_singleton.1 hm]; exact hfl
          have HAPP : Hid (strs ((o ++ [p0 :: P1]).map bs) = strs (o.map bs) ++ [.string (bs (p0 :: P1))]) := by unfold Hid; rw [List.map_append]; exact strs_snoc _ _
          have HLEN : Hid ((o ++ [p0 :: P1]).length = o.length + 1) := by unfold Hid; simp
          have hpl : (p0 :: P1).length = P1.length + 1 := List.length_cons
          have hms : (bs S).size < (bs (c0 :: r0)).size := by omega
          have hSn : S.length ≤ n := by omega
          have hoS : o.length + 1 + S.length ≤ s.size := by omega
          have hoc : o.length ≤ 1000 := by omega
          rw [hfl] at HFD
          clear HSK HTA HFA r1 r2 r3 hll hP hS hfl r8 r9 hsl HR hpl
          generalize bs (p0 :: P1) = FB at *
          generalize bs (c0 :: r0) = R at *
          generalize hS2 : bs S = S2 at *
          have HS2 := Lib.hid hS2
          clear hS2
          go_wp2_with fail
          refine (Calls.toExt (HTK.out _)).mono ?_
          rintro e _ ⟨rfl, y, rfl⟩
          have HY := Lib.hid y.2
          have HOY := Lib.hid (Own.below HOWN.out y.2)
          have hzy : w.heap.size ≤ y.1.heap.size := by have := y.2.size; omega
          obtain ⟨Y, hY⟩ := y
          simp only at HY HOY hzy ⊢
          clear hY
          go_wp2_with fail
          refine (Calls.toExt (HFD.out _)).mono ?_
          rintro e _ ⟨rfl, x, rfl⟩
          have HX := Lib.hid x.2
          have HOX := Lib.hid (Own.below HOY.out x.2)
          have hzx : w.heap.size ≤ x.1.heap.size := by have := x.2.size; omega
          obtain ⟨X, hX⟩ := x
          simp only at HX HOX hzx ⊢
          clear hX
          go_wp2_with (at_builtin; refine appStr rfl _ _ rfl w.heap.size _ _ _ _ rfl HOX.out _ _ rfl rfl (by unfold maxLen; omega) (by omega) hzx ?_; intro ad6 c6 w3 hown3 hb3 hg3 hz3; have HOWN3 := Lib.hid hown3; have HB3 := Lib.hid hb3; clear hown3 hb3 hg3 hz3)
          go_roundw
          case rel => exact ⟨n, o ++ [p0 :: P1], S, ad6, c6, hSn, by rw [HLEN.out]; exact hoS, HR2.out, HOF2.out, by rw [HS2.out], by rw [HLEN.out], by rw [HAPP.out, HLEN.out]; exact HOWN3.out, ((HBL.out.trans (HY.out.mono hzr)).trans (HX.out.mono hzy)).trans HB3.out⟩
          case measure => exact hms
end Go.Proofs.YtaolbfbnjbpljaaDoor
