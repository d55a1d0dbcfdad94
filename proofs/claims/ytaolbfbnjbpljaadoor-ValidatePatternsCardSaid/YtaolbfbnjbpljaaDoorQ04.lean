/- Walks: the kinds of fields, by the program: the loop. -/
import Derived.Test.YtaolbfbnjbpljaaDoorQ03
import Derived.Shelf.Strings.SlTrimAscii
namespace Go.Proofs.YtaolbfbnjbpljaaDoor
open Go.RowKit Go.Sort
attribute [local go_sem] Ext.cell Ext.frozen
attribute [local go_sem ↓] Go.wp_at_zero Go.wp_at_succ

theorem compact_len (l : List (List UInt8)) : (Lib.compact l).length ≤ l.length := by
  unfold Lib.compact Lib.compactUpTo
  rw [List.length_map]
  have := List.length_filter_le (Lib.keeps l.toArray) (List.range l.length)
  simpa using this
theorem compact_mem {l : List (List UInt8)} {x : List UInt8} (h : x ∈ Lib.compact l) : x ∈ l := by
  unfold Lib.compact Lib.compactUpTo at h
  obtain ⟨j, hj, rfl⟩ := List.mem_map.1 h
  have hjl : j < l.length := List.mem_range.1 (List.mem_filter.1 hj).1
  simp [hjl]
theorem join_flat (l : List (List UInt8)) : Lib.join l [] = l.flatten := by
  cases l with
  | nil => rfl
  | cons x r =>
    rw [Lib.join_cons]
    unfold Lib.joinTail
    simp
theorem flat_len : ∀ {l : List (List UInt8)}, (∀ x ∈ l, x.length ≤ 1) → l.flatten.length ≤ l.length
  | [], _ => by simp
  | x :: r, h => by
    have h1 := h x (by simp)
    have h2 := flat_len (l := r) (fun y hy => h y (by simp [hy]))
    simp only [List.flatten_cons, List.length_append, List.length_cons]
    omega
theorem heads_one {fs : List (List UInt8)} : ∀ x ∈ headsL fs, x.length ≤ 1 := by
  intro x hx
  obtain ⟨f, _, rfl⟩ := List.mem_map.1 hx
  rw [List.length_take]; omega
theorem kinds_len (fs : List (List UInt8)) : (Lib.join (Lib.compact (sortL (headsL fs))) []).length ≤ fs.length := by
  rw [join_flat]
  have h1 := flat_len (l := Lib.compact (sortL (headsL fs))) (fun x hx => heads_one x (List.mem_mergeSort.1 (compact_mem hx)))
  have h2 := compact_len (sortL (headsL fs))
  rw [sort_len] at h2
  have : (headsL fs).length = fs.length := List.length_map ..
  omega
theorem kinds_pos {fs : List (List UInt8)} (h : fs ≠ []) : 0 < (Lib.compact (sortL (headsL fs))).length := by
  have hl : 0 < (sortL (headsL fs)).length := by
    rw [sort_len]; unfold headsL; rw [List.length_map]; exact List.length_pos_iff.2 h
  unfold Lib.compact Lib.compactUpTo
  rw [List.length_map]
  apply List.length_pos_iff.2
  intro e
  have : (0 : Nat) ∈ (List.range (sortL (headsL fs)).length).filter (Lib.keeps (sortL (headsL fs)).toArray) := by
    rw [List.mem_filter, List.mem_range]
    exact ⟨hl, Lib.keeps_lt_one _ 0 (by omega)⟩
  rw [e] at this
  cases this

set_option maxRecDepth 20000 in
set_option maxHeartbeats 8000000 in
theorem kinds_any (ad : Option Addr) (n c : Nat) (fs : List (List UInt8)) (w : World) (h : Sl w ad n (strs (fs.map bs))) (hne : fs ≠ []) (hf : ∀ f ∈ fs, 1 ≤ f.length ∧ f.length ≤ 3) (hn : n ≤ 1000) :
    Calls Tryd.prog 32 #[.slice ad n c] w fun e w' => e = .returned (.tuple #[.string (bs (kindsV fs).1), .bool (kindsV fs).2]) ∧ Below w.heap.size w w' := by
  have hl := h.len
  rw [strs_length, List.length_map] at hl
  have HL := Lib.hid hl
  obtain ⟨b, off, hk⟩ := h
  have hnp : 0 < n := by rw [← hl]; exact List.length_pos_iff.2 hne
  have hbl := hk.block (by omega)
  have HK := Lib.hid hk
  have HF := Lib.hid hf
  have HNE := Lib.hid hne
  clear hk hf hne hl
  go_enter Tryd.func32, Tryd.ntmps32
  go_wp2_with fail
  go_loopw [4, 10] (fun v i wr => ∃ (k : Nat) (ad4 : Option Addr) (c4 : Nat), k ≤ n ∧ i = .int .i64 (k : Int) ∧ v = .slice ad4 k c4 ∧ wr.ownsRow w.heap.size 9 1 (.slice ad4 k c4) k (strs ((headsL (fs.take k)).map bs)) ∧ Below w.heap.size w wr) (fun _ i _ => n - (intOf i).toNat)
  case atStart => exact ⟨0, none, 0, Nat.zero_le _, rfl, rfl, World.ownsRow_nil _ _ _ _, Below.refl _ _⟩
  case round =>
    obtain ⟨k, ad4, c4, hkn, rfl, rfl, hown, hb⟩ := hrel
    have HOWN := Lib.hid hown
    have HB := Lib.hid hb
    have hzr := hb.size
    clear hown hb
    by_cases hlt : k < n
    · have hix := HK.out.ix (P := Tryd.prog) (c := c) 23 9 Tryd.underlying23 cellsStr hlt
      have hcl := HK.out.cell k hlt
      have hkl : k < fs.length := by rw [HL.out]; exact hlt
      rw [strs_getD _ k (by rw [List.length_map]; exact hkl)] at hcl
      have hgd : (fs.map bs).getD k .empty = bs fs[k] := by simp [List.getD, List.getElem?_map, List.getElem?_eq_getElem hkl]
      rw [hgd] at hcl
      have hclr := (HB.out.cell (p := ⟨b, off + k, none⟩) hbl).trans hcl
      obtain ⟨f1, f2⟩ := HF.out fs[k] (List.getElem_mem hkl)
      have hfs : (bs fs[k]).size = fs[k].length := bs_size _
      have hf1 : 1 ≤ (bs fs[k]).size := by omega
      have hf3 : (bs fs[k]).size ≤ 3 := by omega
      have HEX : Hid ((bs fs[k]).extract 0 1 = bs (fs[k].take 1)) := by unfold Hid; rw [bs_extract, List.drop_zero]
      have HTK : Hid (strs ((headsL (fs.take (k + 1))).map bs) = strs ((headsL (fs.take k)).map bs) ++ [.string (bs (fs[k].take 1))]) := by
        unfold Hid headsL
        rw [List.take_succ_eq_append_getElem hkl, List.map_append, List.map_append]; exact strs_snoc _ _
      have hzb : b < wr.heap.size := by omega
      clear hcl hgd hfs f1 f2
      generalize bs (fs[k].take 1) = h1 at *
      generalize bs fs[k] = FB at *
      have hex := HEX.out
      go_wp2_with (at_builtin; refine appStr rfl _ _ rfl w.heap.size _ _ _ _ rfl HOWN.out _ _ rfl rfl (by unfold maxLen; omega) (by omega) hzr ?_; intro ad6 c6 w3 hown3 hb3 hg3 hz3; have HOWN3 := Lib.hid hown3; have HB3 := Lib.hid hb3; clear hown3 hb3 hg3 hz3)
      go_roundw
      case rel => exact ⟨k + 1, ad6, c6, by omega, by go_num, rfl, by rw [HTK.out]; exact HOWN3.out, HB.out.trans HB3.out⟩
      case measure => simp [intOf]; omega
    · obtain rfl : k = n := by omega
      have HOW : Hid (wr.ownsRow w.heap.size 9 1 (.slice ad4 k c4) k (strs ((headsL fs).map bs))) := by
        have := HOWN.out
        rwa [List.take_of_length_le (by rw [HL.out]; exact Nat.le_refl _)] at this
      have HKL := Lib.hid (kinds_len fs)
      have HKP := Lib.hid (kinds_pos HNE.out)
      have HCL := Lib.hid (compact_len (sortL (headsL fs)))
      have HSL : Hid ((sortL (headsL fs)).length = k) := by unfold Hid; rw [sort_len]; unfold headsL; rw [List.length_map, HL.out]
      have HR : Hid (kindsV fs = (Lib.join (Lib.compact (sortL (headsL fs))) [], decide ((Lib.compact (sortL (headsL fs))).length = k))) := by unfold Hid kindsV; rw [HL.out]
      clear HOWN HK hlt
      go_wp2_with fail
      refine (sort_own ad4 k c4 w.heap.size (headsL fs) _ HOW.out (by omega) (by omega) hzr).mono ?_
      rintro e w1 ⟨rfl, hown1, hb1⟩
      have HO1 := Lib.hid hown1
      have HB1 := Lib.hid (HB.out.trans hb1)
      have hz1 := (HB.out.trans hb1).size
      clear hown1 hb1 HOW HB
      go_wp2_with fail
      refine (clone_own ad4 k c4 w.heap.size (sortL (headsL fs)) _ HO1.out (by omega) (by omega)).mono ?_
      rintro e w2 ⟨ad5, c5, rfl, hown2, hb2⟩
      have HO2 := Lib.hid hown2
      have HB2 := Lib.hid (HB1.out.trans (hb2.mono hz1))
      have hz2 := hb2.size
      clear hown2 hb2 HO1
      go_wp2_with fail
      refine (compact_own ad5 k c5 w1.heap.size (sortL (headsL fs)) _ HO2.out (by omega) (by omega) hz2 HCL.out).mono ?_
      rintro e w3 ⟨rfl, hown3, hb3⟩
      have HO3 := Lib.hid hown3
      have HB3 := Lib.hid (HB2.out.trans (hb3.mono hz1))
      have hcl2 : (Lib.compact (sortL (headsL fs))).length ≤ k := by have := HCL.out; rw [HSL.out] at this; exact this
      have hcp := HKP.out
      have HJL : Hid ((Lib.join (Lib.compact (sortL (headsL fs))) []).length ≤ 1000000) := by have := HKL.out; rw [HL.out] at this; unfold Hid; omega
      clear hown3 hb3 HO2
      generalize Lib.compact (sortL (headsL fs)) = cs at *
      obtain ⟨m, hm⟩ : ∃ m, cs.length = m := ⟨_, rfl⟩
      rw [hm] at HO3 hcl2 hcp HR
      rw [hm]
      clear hm
      go_wp2_with fail
      refine (Calls.toExt (join_own ad5 m c5 w1.heap.size cs _ HO3.out hcp (by omega) HJL.out)).mono ?_
      rintro e _ ⟨rfl, x, rfl⟩
      go_wp2_with fail
      go_ret2
      refine ⟨?_, HB3.out.trans (x.2.mono (by have := HB3.out.size; omega))⟩
      rw [HR.out]
      have hdm : ((m : Int) == (k : Int)) = decide (m = k) := by rw [Bool.eq_iff_iff, beq_iff_eq, decide_eq_true_eq]; omega
      simp [Array.getD, hdm]
end Go.Proofs.YtaolbfbnjbpljaaDoor
/- Walks: the fields of a pattern, by the program. -/
namespace Go.Proofs.YtaolbfbnjbpljaaDoor
open Go.RowKit
attribute [local go_sem] Ext.cell Ext.frozen
attribute [local go_sem ↓] Go.wp_at_zero Go.wp_at_succ

def lettersL : List UInt8 := [65, 66, 67, 68, 69, 70, 71, 72, 73, 74, 75, 76, 77, 78, 79, 80, 81, 82, 83, 84, 85, 86, 87, 88, 89, 90, 97, 98, 99, 100, 101, 102, 103, 104, 105, 106, 107, 108, 109, 110, 111, 112, 113, 114, 115, 116, 117, 118, 119, 120, 121, 122]
theorem letter_mem (c : UInt8) : lettersL.contains c = isL c := by
  have h : ∀ n : Fin 256, lettersL.contains (UInt8.ofNat n.1) = isL (UInt8.ofNat n.1) := by decide +kernel
  have := h ⟨c.toNat, c.toNat_lt⟩
  simpa using this
theorem trimLetters (s : ByteArray) (w : World) :
    Calls Tryd.prog 27 #[.string s, .string ⟨#[65, 66, 67, 68, 69, 70, 71, 72, 73, 74, 75, 76, 77, 78, 79, 80, 81, 82, 83, 84, 85, 86, 87, 88, 89, 90, 97, 98, 99, 100, 101, 102, 103, 104, 105, 106, 107, 108, 109, 110, 111, 112, 113, 114, 115, 116, 117, 118, 119, 120, 121, 122]⟩] w fun e w' => e = .returned (.string (bs (s.data.toList.dropWhile isL))) ∧ Below w.heap.size w w' :=
  (Any.strings_TrimLeft_laid Tryd.lays161 (by kernel_rfl) s ⟨#[65, 66, 67, 68, 69, 70, 71, 72, 73, 74, 75, 76, 77, 78, 79, 80, 81, 82, 83, 84, 85, 86, 87, 88, 89, 90, 97, 98, 99, 100, 101, 102, 103, 104, 105, 106, 107, 108, 109, 110, 111, 112, 113, 114, 115, 116, 117, 118, 119, 120, 121, 122]⟩ w (by decide) (ascii_of_all (by decide))).mono fun e w' ⟨he, hw⟩ => ⟨by
    rw [he]
    have e1 : Lib.trimLeftS s.data.toList lettersL = s.data.toList.dropWhile isL := by
      unfold Lib.trimLeftS; congr 1; funext x; exact letter_mem x
    rw [← e1]; rfl, hw⟩

theorem runsV_nil (n : Nat) : runsV n [] = some [] := by cases n <;> rfl
theorem runsV_skip {n : Nat} {c : UInt8} {s : List UInt8} (h : (c :: s).takeWhile isL = []) : runsV (n + 1) (c :: s) = runsV n s := by rw [runsV, if_pos h]
theorem runsV_take {n : Nat} {c : UInt8} {s : List UInt8} (h : (c :: s).takeWhile isL ≠ []) (hf : isFld ((c :: s).takeWhile isL) = true) :
    runsV (n + 1) (c :: s) = (runsV n ((c :: s).dropWhile isL)).map (((c :: s).takeWhile isL) :: ·) := by rw [runsV, if_neg h, if_pos hf]
theorem runsV_fail {n : Nat} {c : UInt8} {s : List UInt8} (h : (c :: s).takeWhile isL ≠ []) (hf : isFld ((c :: s).takeWhile isL) = false) :
    runsV (n + 1) (c :: s) = none := by rw [runsV, if_neg h, if_neg (by rw [hf]; simp)]
def strLen : Value → Nat
  | .string s => s.size
  | _ => 0

/-- what runs answers -/
def RunsPost (s : List UInt8) (w : World) (e : Ending) (w' : World) : Prop :=
  Below w.heap.size w w' ∧ ((runsV s.length s = none ∧ e = .returned (.tuple #[.slice none 0 0, .bool false])) ∨
    ∃ fs ad c, runsV s.length s = some fs ∧ fs.length ≤ s.length ∧ (∀ f ∈ fs, isFld f = true) ∧ e = .returned (.tuple #[.slice ad fs.length c, .bool true]) ∧ w'.ownsRow w.heap.size 9 1 (.slice ad fs.length c) fs.length (strs (fs.map bs)))

set_option maxRecDepth 20000 in
set_option maxHeartbeats 8000000 in
theorem runs_any (s : ByteArray) (w : World) (hs : s.size ≤ 1000) : Calls Tryd.prog 31 #[.string s] w (RunsPost s.data.toList w) := by
  have HF := Lib.hid field_any
  have HT := Lib.hid trimLetters
  have hsl : s.data.toList.length = s.size := size_len s
  go_enter Tryd.func31, Tryd.ntmps31
  go_wp2_with fail
  go_loopw [0, 4] (fun p v wr => ∃ (n : Nat) (o : List (List UInt8)) (rr : List UInt8) (ad : Option Addr) (c : Nat), rr.length ≤ n ∧ o.length + rr.length ≤ s.size ∧ runsV s.data.toList.length s.data.toList = (runsV n rr).map (o ++ ·) ∧ (∀ f ∈ o, isFld f = true) ∧ p = .string (bs rr) ∧
      v = .slice ad o.length c ∧ wr.ownsRow w.heap.size 9 1 (.slice ad o.length c) o.length (strs (o.map bs)) ∧ Below w.heap.size w wr) (fun p _ _ => strLen p)
  case atStart => exact ⟨_, [], s.data.toList, none, 0, Nat.le_refl _, by rw [hsl]; simp, by simp, by simp, rfl, rfl, World.ownsRow_nil _ _ _ _, Below.refl _ _⟩
  case round =>
    obtain ⟨n, o, rr, ad, c, hn, hol, hr, hof, rfl, rfl, hown, hbl⟩ := hrel
    have HR := Lib.hid hr
    have HOF := Lib.hid hof
    have HOWN := Lib.hid hown
    have HBL := Lib.hid hbl
    have hzr := hbl.size
    clear hr hof hown hbl
    cases rr with
    | nil =>
      have HV : Hid (runsV s.data.toList.length s.data.toList = some o) := by unfold Hid; rw [HR.out, runsV_nil]; simp
      have e0 : bs ([] : List UInt8) = ⟨#[]⟩ := rfl
      rw [e0]
      go_wp2_with fail
      go_ret2
      exact ⟨HBL.out, .inr ⟨o, ad, c, HV.out, by rw [hsl]; omega, HOF.out, rfl, HOWN.out⟩⟩
    | cons c0 r0 =>
      obtain ⟨n, rfl⟩ : ∃ m, n = m + 1 := ⟨n - 1, by simp at hn; omega⟩
      have HTK := Lib.hid (fun w => HT.out (bs (c0 :: r0)) w)
      rw [bs_data] at HTK
      have hsp : c0 :: r0 = (c0 :: r0).takeWhile isL ++ (c0 :: r0).dropWhile isL := (List.takeWhile_append_dropWhile ..).symm
      have hll := congrArg List.length hsp
      rw [List.length_append] at hll
      have hex : (bs (c0 :: r0)).extract 0 ((c0 :: r0).takeWhile isL).length = bs ((c0 :: r0).takeWhile isL) := by
        rw [bs_extract, List.drop_zero]
        conv => lhs; arg 1; arg 2; rw [hsp]
        rw [List.take_left]
      have hex1 : (bs (c0 :: r0)).extract 1 (bs (c0 :: r0)).size = bs r0 := by
        rw [bs_extract, List.take_of_length_le (by rw [bs_size]; exact Nat.le_refl _)]; rfl
      have HSK := Lib.hid (fun h => runsV_skip (n := n) (c := c0) (s := r0) h)
      have HTA := Lib.hid (fun h1 h2 => runsV_take (n := n) (c := c0) (s := r0) h1 h2)
      have HFA := Lib.hid (fun h1 h2 => runsV_fail (n := n) (c := c0) (s := r0) h1 h2)
      have HFD := Lib.hid (fun w => HF.out (bs ((c0 :: r0).takeWhile isL)) w)
      rw [bs_data] at HFD
      have r1 : (bs (c0 :: r0)).size = (c0 :: r0).length := bs_size _
      have r2 : (bs ((c0 :: r0).dropWhile isL)).size = ((c0 :: r0).dropWhile isL).length := bs_size _
      have r3 : (bs ((c0 :: r0).takeWhile isL)).size = ((c0 :: r0).takeWhile isL).length := bs_size _
      have r8 : (bs r0).size = r0.length := bs_size _
      rw [List.length_cons] at hn hol
      have r9 : (c0 :: r0).length = r0.length + 1 := List.length_cons
      have hneR : (bs (c0 :: r0)).toList.isEmpty = false := by rw [bs_toList]; rfl
      have hneR2 : ¬ bs (c0 :: r0) = ⟨#[]⟩ := fun e => by have := congrArg (fun s : ByteArray => s.data.toList) e; rw [bs_data] at this; cases this
      clear hsp
      generalize hP : (c0 :: r0).takeWhile isL = P at *
      generalize hS : (c0 :: r0).dropWhile isL = S at *
      have r4 : ((bs (c0 :: r0)).size : Int) - ((bs S).size : Int) = ((bs P).size : Int) := by omega
      have r5 : (bs P).size ≤ (bs (c0 :: r0)).size := by omega
      have r6 : (bs (c0 :: r0)).size ≤ 1000 := by omega
      have r7 : (bs S).size ≤ (bs (c0 :: r0)).size := by omega
      have r10 : 1 ≤ (bs (c0 :: r0)).size := by omega
      rw [← r3] at hex
      cases P with
      | nil =>
        have e0 : bs ([] : List UInt8) = ⟨#[]⟩ := rfl
        rw [e0] at hex r4 r5
        have HR2 : Hid (runsV s.data.toList.length s.data.toList = (runsV n r0).map (o ++ ·)) := by unfold Hid; rw [HR.out, HSK.out rfl]
        have hz0 : (ByteArray.mk #[]).size = 0 := rfl
        rw [hz0] at hex r4
        have hms : (bs r0).size < (bs (c0 :: r0)).size := by omega
        clear HSK HTA HFA HFD r1 r2 r3 hll hP hS e0 hz0 r8 r9 hsl HR
        generalize bs (c0 :: r0) = R at *
        generalize hR0 : bs r0 = R0 at *
        have HR0 := Lib.hid hR0
        clear hR0
        generalize bs S = S2 at *
        go_wp2_with fail
        refine (Calls.toExt (HTK.out _)).mono ?_
        rintro e _ ⟨rfl, x, rfl⟩
        go_wp2_with fail
        go_roundw
        case rel => exact ⟨n, o, r0, ad, c, by omega, by omega, HR2.out, HOF.out, by rw [HR0.out], rfl, Own.below HOWN.out x.2, HBL.out.trans (x.2.mono hzr)⟩
        case measure => exact hms
      | cons p0 P1 =>
        have hne : (bs (p0 :: P1)).toList.isEmpty = false := by rw [bs_toList]; rfl
        have hne2 : ¬ bs (p0 :: P1) = ⟨#[]⟩ := fun e => by have := congrArg (fun s : ByteArray => s.data.toList) e; rw [bs_data] at this; cases this
        cases hfl : isFld (p0 :: P1) with
        | false =>
          have HV : Hid (runsV s.data.toList.length s.data.toList = none) := by unfold Hid; rw [HR.out, HFA.out (by simp) hfl]; rfl
          rw [hfl] at HFD
          clear HSK HTA HFA r1 r2 r3 hll hP hS hfl r8 r9 hsl HR
          generalize bs (p0 :: P1) = FB at *
          generalize bs (c0 :: r0) = R at *
          generalize bs S = S2 at *
          go_wp2_with fail
          refine (Calls.toExt (HTK.out _)).mono ?_
          rintro e _ ⟨rfl, x, rfl⟩
          have hzx := x.2.size
          go_wp2_with fail
          refine (Calls.toExt (HFD.out _)).mono ?_
          rintro e _ ⟨rfl, y, rfl⟩
          go_wp2_with fail
          go_ret2
          exact ⟨(HBL.out.trans (x.2.mono hzr)).trans (y.2.mono (by omega)), .inl ⟨HV.out, rfl⟩⟩
        | true =>
          have HR2 : Hid (runsV s.data.toList.length s.data.toList = (runsV n S).map ((o ++ [p0 :: P1]) ++ ·)) := by
            unfold Hid
            rw [HR.out, HTA.out (by simp) hfl, Option.map_map]
            congr 1
            funext z
            simp
          have HOF2 : Hid (∀ f ∈ o ++ [p0 :: P1], isFld f = true) := fun f hm => by
            rcases List.mem_append.1 hm with hm | hm
            · exact HOF.out f hm
            · rw [List.mem_singleton.1 hm]; exact hfl
          have HAPP : Hid (strs ((o ++ [p0 :: P1]).map bs) = strs (o.map bs) ++ [.string (bs (p0 :: P1))]) := by unfold Hid; rw [List.map_append]; exact strs_snoc _ _
          have HLEN : Hid ((o ++ [p0 :: P1]).length = o.length + 1) := by unfold Hid; simp
          have hpl : (p0 :: P1).length = P1.length + 1 := List.length_cons
          have hms : (bs S).size < (bs (c0 :: r0)).size := by omega
          have hSn : S.length ≤ n := by omega
          have hoS : o.length + 1 + S.length ≤ s.size := by omega
          have hoc : o.length ≤ 1000 := by omega
          rw [hfl] at HFD
          clear HSK HTA HFA r1 r2 r3 hll hP hS hfl r8 r9 hsl HR hpl
          generalize bs (p0 :: P1) = FB at *
          generalize bs (c0 :: r0) = R at *
          generalize hS2 : bs S = S2 at *
          have HS2 := Lib.hid hS2
          clear hS2
          go_wp2_with fail
          refine (Calls.toExt (HTK.out _)).mono ?_
          rintro e _ ⟨rfl, y, rfl⟩
          have HY := Lib.hid y.2
          have HOY := Lib.hid (Own.below HOWN.out y.2)
          have hzy : w.heap.size ≤ y.1.heap.size := by have := y.2.size; omega
          obtain ⟨Y, hY⟩ := y
          simp only at HY HOY hzy ⊢
          clear hY
          go_wp2_with fail
          refine (Calls.toExt (HFD.out _)).mono ?_
          rintro e _ ⟨rfl, x, rfl⟩
          have HX := Lib.hid x.2
          have HOX := Lib.hid (Own.below HOY.out x.2)
          have hzx : w.heap.size ≤ x.1.heap.size := by have := x.2.size; omega
          obtain ⟨X, hX⟩ := x
          simp only at HX HOX hzx ⊢
          clear hX
          go_wp2_with (at_builtin; refine appStr rfl _ _ rfl w.heap.size _ _ _ _ rfl HOX.out _ _ rfl rfl (by unfold maxLen; omega) (by omega) hzx ?_; intro ad6 c6 w3 hown3 hb3 hg3 hz3; have HOWN3 := Lib.hid hown3; have HB3 := Lib.hid hb3; clear hown3 hb3 hg3 hz3)
          go_roundw
          case rel => exact ⟨n, o ++ [p0 :: P1], S, ad6, c6, hSn, by rw [HLEN.out]; exact hoS, HR2.out, HOF2.out, by rw [HS2.out], by rw [HLEN.out], by rw [HAPP.out, HLEN.out]; exact HOWN3.out, ((HBL.out.trans (HY.out.mono hzr)).trans (HX.out.mono hzy)).trans HB3.out⟩
          case measure => exact hms
end Go.Proofs.YtaolbfbnjbpljaaDoor
/- Walks: whether a pattern fits a skeleton, by the program. -/
namespace Go.Proofs.YtaolbfbnjbpljaaDoor
open Go.RowKit
attribute [local go_sem] Ext.cell Ext.frozen
attribute [local go_sem ↓] Go.wp_at_zero Go.wp_at_succ

theorem fieldsV_some {s : List UInt8} {fs} (h : fieldsV s = some fs) : fs ≠ [] ∧ fs.length ≤ 4 ∧ ∀ f ∈ fs, isFld f = true := by
  unfold fieldsV at h
  cases hs : stF s 4 with
  | none => rw [hs] at h; cases h
  | some st =>
    obtain ⟨o, r⟩ := st
    rw [hs] at h
    obtain ⟨h1, _, h3⟩ := stF_len hs
    simp only at h
    split at h
    · rename_i hc
      injection h with h
      subst h
      exact ⟨hc.2, h1, h3⟩
    · cases h
def dateV (s p : List UInt8) : Bool :=
  match fieldsV s, runsV p.length p with
  | some w, some g => decide (g ≠ []) && ((kindsV g).2 && decide ((kindsV w).1 = (kindsV g).1))
  | _, _ => false

set_option maxRecDepth 20000 in
set_option maxHeartbeats 8000000 in
theorem date_any (s p : ByteArray) (w : World) (hs : s.size ≤ 1000) (hp : p.size ≤ 1000) : Calls Tryd.prog 11 #[.string s, .string p] w fun e w' => e = .returned (.bool (dateV s.data.toList p.data.toList)) ∧ Below w.heap.size w w' := by
  have HFI := Lib.hid (fun w => fields_any s w hs)
  have HRU := Lib.hid (fun w => runs_any p w hp)
  have hpl : p.data.toList.length = p.size := size_len p
  go_enter Tryd.func11, Tryd.ntmps11
  go_wp2_with fail
  refine (HFI.out _).mono ?_
  rintro e w1 ⟨hb1, hf1⟩
  have HB1 := Lib.hid hb1
  have hz1 := hb1.size
  clear hb1
  rcases hf1 with ⟨hv1, rfl⟩ | ⟨fs, ad, c, hv1, rfl, hown1⟩
  · have HD : Hid (dateV s.data.toList p.data.toList = false) := by unfold Hid dateV; rw [hv1]
    clear hv1
    go_wp2_with fail
    refine (HRU.out _).mono ?_
    rintro e w2 ⟨hb2, hf2⟩
    have HB2 := Lib.hid (HB1.out.trans (hb2.mono hz1))
    clear hb2
    rcases hf2 with ⟨hv2, rfl⟩ | ⟨gs, ad2, c2, hv2, _, _, rfl, hown2⟩
    · clear hv2
      go_wp2_with fail
      go_ret
      exact ⟨ret_bool HD.out.symm, HB2.out⟩
    · clear hv2 hown2
      go_wp2_with fail
      go_ret
      exact ⟨ret_bool HD.out.symm, HB2.out⟩
  · obtain ⟨hne1, hl1, hfl1⟩ := fieldsV_some hv1
    have HO1 := Lib.hid hown1
    have HV1 := Lib.hid hv1
    have HFL1 : Hid (∀ f ∈ fs, 1 ≤ f.length ∧ f.length ≤ 3) := fun f hm => fld_facts (hfl1 f hm)
    clear hown1 hv1 hfl1
    go_wp2_with fail
    refine (HRU.out _).mono ?_
    rintro e w2 ⟨hb2, hf2⟩
    have HB2 := Lib.hid (HB1.out.trans (hb2.mono hz1))
    have HO12 := Lib.hid (Own.below HO1.out hb2)
    have hz2 := hb2.size
    clear hb2
    rcases hf2 with ⟨hv2, rfl⟩ | ⟨gs, ad2, c2, hv2, hl2, hfl2, rfl, hown2⟩
    · have HD : Hid (dateV s.data.toList p.data.toList = false) := by unfold Hid dateV; rw [HV1.out, hv2]
      clear hv2
      go_wp2_with fail
      go_ret
      exact ⟨ret_bool HD.out.symm, HB2.out⟩
    · by_cases hg0 : gs = []
      · subst hg0
        have HD : Hid (dateV s.data.toList p.data.toList = false) := by unfold Hid dateV; rw [HV1.out, hv2]; rfl
        clear hv2 hown2 hfl2
        go_wp2_with fail
        go_ret
        exact ⟨ret_bool HD.out.symm, HB2.out⟩
      · have HO2 := Lib.hid hown2
        have HFL2 : Hid (∀ f ∈ gs, 1 ≤ f.length ∧ f.length ≤ 3) := fun f hm => fld_facts (hfl2 f hm)
        have HD : Hid (dateV s.data.toList p.data.toList = ((kindsV gs).2 && decide ((kindsV fs).1 = (kindsV gs).1))) := by
          unfold Hid dateV; rw [HV1.out, hv2]; simp [hg0]
        have HG0 := Lib.hid hg0
        have HNE1 := Lib.hid hne1
        have hlp : 0 < gs.length := List.length_pos_iff.2 hg0
        have hl0 : ((gs.length : Int) == 0) = false := by rw [beq_eq_false_iff_ne]; omega
        have hg1000 : gs.length ≤ 1000 := by omega
        have HK1 := Lib.hid (fun W h => kinds_any ad fs.length c fs W h HNE1.out HFL1.out (by omega))
        have HK2 := Lib.hid (fun W h => kinds_any ad2 gs.length c2 gs W h HG0.out HFL2.out hg1000)
        clear hv2 hown2 hfl2 hg0 hne1
        obtain ⟨m, hm⟩ : ∃ m, gs.length = m := ⟨_, rfl⟩
        rw [hm] at hlp hl0 hg1000 HO2 HK2
        rw [hm]
        obtain ⟨m1, hm1⟩ : ∃ m, fs.length = m := ⟨_, rfl⟩
        rw [hm1] at HO1 HO12 HK1
        rw [hm1]
        clear hm hm1
        generalize (kindsV fs).1 = ka at *
        generalize (kindsV fs).2 = kb at *
        generalize (kindsV gs).1 = kc at *
        go_wp2_with fail
        refine (Calls.toExt (HK1.out _ (Own.sl HO12.out))).mono ?_
        rintro e _ ⟨rfl, x, rfl⟩
        have hzx := x.2.size
        have HO2X := Lib.hid (Own.below HO2.out x.2)
        go_wp2_with fail
        refine (Calls.toExt (HK2.out _ (Own.sl HO2X.out))).mono ?_
        rintro e _ ⟨rfl, y, rfl⟩
        have HBF := Lib.hid ((HB2.out.trans (x.2.mono (by omega))).trans (y.2.mono (by omega)))
        cases hd : (kindsV gs).2 with
        | false =>
          rw [hd] at HD
          clear hd
          go_wp2_with fail
          go_ret
          exact ⟨ret_bool (by rw [HD.out]; rfl), HBF.out⟩
        | true =>
          rw [hd] at HD
          clear hd
          by_cases hkk : ka = kc
          · have HR : Hid (dateV s.data.toList p.data.toList = true) := by unfold Hid; rw [HD.out, decide_eq_true hkk]; rfl
            subst hkk
            go_wp2_with fail
            go_ret
            exact ⟨ret_bool (by rw [HR.out]), HBF.out⟩
          · have HR : Hid (dateV s.data.toList p.data.toList = false) := by unfold Hid; rw [HD.out, decide_eq_false hkk]; rfl
            have hne : ¬ bs ka = bs kc := fun e => hkk (bs_inj e)
            have hne2 : ((bs ka).toList == (bs kc).toList) = false := by rw [bs_toList, bs_toList]; simpa using hkk
            clear hkk
            generalize bs ka = A1 at *
            generalize bs kc = A2 at *
            go_wp2_with fail
            go_ret
            exact ⟨ret_bool (by rw [HR.out]), HBF.out⟩
end Go.Proofs.YtaolbfbnjbpljaaDoor
