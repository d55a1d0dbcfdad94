/- Walks: the kinds of fields, by the program: the loop. -/
import Derived.Test.YtaolbfbnjbpljaaDoorV4
namespace Go.Proofs.YtaolbfbnjbpljaaDoor
open Go.RowKit Go.Sort
attribute [local go_sem] Ext.cell Ext.frozen
attribute [local go_sem ↓] Go.wp_at_zero Go.wp_at_succ

theorem compact_len (l : List (List UInt8)) : (Lib.compact l).length ≤ l.length := by
  unfold Lib.compact Lib.compactUpTo
  rw [List.length_map]
  have := List.length_filter_le (Lib.keeps l.toArray) (List.range l.length)
  simpa using this
theorem compact_mem {l : List (List UInt8)} {x : List UInt8} (h : x ∈ Lib.compact l) : x ∈ l := by
  unfold Lib.compact Lib.compactUpTo at h
  obtain ⟨j, hj, rfl⟩ := List.mem_map.1 h
  have hjl : j < l.length := List.mem_range.1 (List.mem_filter.1 hj).1
  simp [hjl]
theorem join_flat (l : List (List UInt8)) : Lib.join l [] = l.flatten := by
  cases l with
  | nil => rfl
  | cons x r =>
    rw [Lib.join_cons]
    unfold Lib.joinTail
    simp
theorem flat_len : ∀ {l : List (List UInt8)}, (∀ x ∈ l, x.length ≤ 1) → l.flatten.length ≤ l.length
  | [], _ => by simp
  | x :: r, h => by
    have h1 := h x (by simp)
    have h2 := flat_len (l := r) (fun y hy => h y (by simp [hy]))
    simp only [List.flatten_cons, List.length_append, List.length_cons]
    omega
theorem heads_one {fs : List (List UInt8)} : ∀ x ∈ headsL fs, x.length ≤ 1 := by
  intro x hx
  obtain ⟨f, _, rfl⟩ := List.mem_map.1 hx
  rw [List.length_take]; omega
theorem kinds_len (fs : List (List UInt8)) : (Lib.join (Lib.compact (sortL (headsL fs))) []).length ≤ fs.length := by
  rw [join_flat]
  have h1 := flat_len (l := Lib.compact (sortL (headsL fs))) (fun x hx => heads_one x (List.mem_mergeSort.1 (compact_mem hx)))
  have h2 := compact_len (sortL (headsL fs))
  rw [sort_len] at h2
  have : (headsL fs).length = fs.length := List.length_map ..
  omega
theorem kinds_pos {fs : List (List UInt8)} (h : fs ≠ []) : 0 < (Lib.compact (sortL (headsL fs))).length := by
  have hl : 0 < (sortL (headsL fs)).length := by
    rw [sort_len]; unfold headsL; rw [List.length_map]; exact List.length_pos_iff.2 h
  unfold Lib.compact Lib.compactUpTo
  rw [List.length_map]
  apply List.length_pos_iff.2
  intro e
  have : (0 : Nat) ∈ (List.range (sortL (headsL fs)).length).filter (Lib.keeps (sortL (headsL fs)).toArray) := by
    rw [List.mem_filter, List.mem_range]
    exact ⟨hl, Lib.keeps_lt_one _ 0 (by omega)⟩
  rw [e] at this
  cases this

set_option maxRecDepth 20000 in
set_option maxHeartbeats 8000000 in
theorem kinds_any (ad : Option Addr) (n c : Nat) (fs : List (List UInt8)) (w : World) (h : Sl w ad n (strs (fs.map bs))) (hne : fs ≠ []) (hf : ∀ f ∈ fs, 1 ≤ f.length ∧ f.length ≤ 3) (hn : n ≤ 1000) :
    Calls Tryd.prog 32 #[.slice ad n c] w fun e w' => e = .returned (.tuple #[.string (bs (kindsV fs).1), .bool (kindsV fs).2]) ∧ Below w.heap.size w w' := by
  have hl := h.len
  rw [strs_length, List.length_map] at hl
  have HL := Lib.hid hl
  obtain ⟨b, off, hk⟩ := h
  have hnp : 0 < n := by rw [← hl]; exact List.length_pos_iff.2 hne
  have hbl := hk.block (by omega)
  have HK := Lib.hid hk
  have HF := Lib.hid hf
  have HNE := Lib.hid hne
  clear hk hf hne hl
  go_enter Tryd.func32, Tryd.ntmps32
  go_wp2_with fail
  go_loopw [4, 10] (fun v i wr => ∃ (k : Nat) (ad4 : Option Addr) (c4 : Nat), k ≤ n ∧ i = .int .i64 (k : Int) ∧ v = .slice ad4 k c4 ∧ wr.ownsRow w.heap.size 9 1 (.slice ad4 k c4) k (strs ((headsL (fs.take k)).map bs)) ∧ Below w.heap.size w wr) (fun _ i _ => n - (intOf i).toNat)
  case atStart => exact ⟨0, none, 0, Nat.zero_le _, rfl, rfl, World.ownsRow_nil _ _ _ _, Below.refl _ _⟩
  case round =>
    obtain ⟨k, ad4, c4, hkn, rfl, rfl, hown, hb⟩ := hrel
    have HOWN := Lib.hid hown
    have HB := Lib.hid hb
    have hzr := hb.size
    clear hown hb
    by_cases hlt : k < n
    · have hix := HK.out.ix (P := Tryd.prog) (c := c) 23 9 Tryd.underlying23 cellsStr hlt
      have hcl := HK.out.cell k hlt
      have hkl : k < fs.length := by rw [HL.out]; exact hlt
      rw [strs_getD _ k (by rw [List.length_map]; exact hkl)] at hcl
      have hgd : (fs.map bs).getD k .empty = bs fs[k] := by simp [List.getD, List.getElem?_map, List.getElem?_eq_getElem hkl]
      rw [hgd] at hcl
      have hclr := (HB.out.cell (p := ⟨b, off + k, none⟩) hbl).trans hcl
      obtain ⟨f1, f2⟩ := HF.out fs[k] (List.getElem_mem hkl)
      have hfs : (bs fs[k]).size = fs[k].length := bs_size _
      have hf1 : 1 ≤ (bs fs[k]).size := by omega
      have hf3 : (bs fs[k]).size ≤ 3 := by omega
      have HEX : Hid ((bs fs[k]).extract 0 1 = bs (fs[k].take 1)) := by unfold Hid; rw [bs_extract, List.drop_zero]
      have HTK : Hid (strs ((headsL (fs.take (k + 1))).map bs) = strs ((headsL (fs.take k)).map bs) ++ [.string (bs (fs[k].take 1))]) := by
        unfold Hid headsL
        rw [List.take_succ_eq_append_getElem hkl, List.map_append, List.map_append]; exact strs_snoc _ _
      have hzb : b < wr.heap.size := by omega
      clear hcl hgd hfs f1 f2
      generalize bs (fs[k].take 1) = h1 at *
      generalize bs fs[k] = FB at *
      have hex := HEX.out
      go_wp2_with (at_builtin; refine appStr rfl _ _ rfl w.heap.size _ _ _ _ rfl HOWN.out _ _ rfl rfl (by unfold maxLen; omega) (by omega) hzr ?_; intro ad6 c6 w3 hown3 hb3 hg3 hz3; have HOWN3 := Lib.hid hown3; have HB3 := Lib.hid hb3; clear hown3 hb3 hg3 hz3)
      go_roundw
      case rel => exact ⟨k + 1, ad6, c6, by omega, by go_num, rfl, by rw [HTK.out]; exact HOWN3.out, HB.out.trans HB3.out⟩
      case measure => simp [intOf]; omega
    · obtain rfl : k = n := by omega
      have HOW : Hid (wr.ownsRow w.heap.size 9 1 (.slice ad4 k c4) k (strs ((headsL fs).map bs))) := by
        have := HOWN.out
        rwa [List.take_of_length_le (by rw [HL.out]; exact Nat.le_refl _)] at this
      have HKL := Lib.hid (kinds_len fs)
      have HKP := Lib.hid (kinds_pos HNE.out)
      have HCL := Lib.hid (compact_len (sortL (headsL fs)))
      have HSL : Hid ((sortL (headsL fs)).length = k) := by unfold Hid; rw [sort_len]; unfold headsL; rw [List.length_map, HL.out]
      have HR : Hid (kindsV fs = (Lib.join (Lib.compact (sortL (headsL fs))) [], decide ((Lib.compact (sortL (headsL fs))).length = k))) := by unfold Hid kindsV; rw [HL.out]
      clear HOWN HK hlt
      go_wp2_with fail
      refine (sort_own ad4 k c4 w.heap.size (headsL fs) _ HOW.out (by omega) (by omega) hzr).mono ?_
      rintro e w1 ⟨rfl, hown1, hb1⟩
      have HO1 := Lib.hid hown1
      have HB1 := Lib.hid (HB.out.trans hb1)
      have hz1 := (HB.out.trans hb1).size
      clear hown1 hb1 HOW HB
      go_wp2_with fail
      refine (clone_own ad4 k c4 w.heap.size (sortL (headsL fs)) _ HO1.out (by omega) (by omega)).mono ?_
      rintro e w2 ⟨ad5, c5, rfl, hown2, hb2⟩
      have HO2 := Lib.hid hown2
      have HB2 := Lib.hid (HB1.out.trans (hb2.mono hz1))
      have hz2 := hb2.size
      clear hown2 hb2 HO1
      go_wp2_with fail
      refine (compact_own ad5 k c5 w1.heap.size (sortL (headsL fs)) _ HO2.out (by omega) (by omega) hz2 HCL.out).mono ?_
      rintro e w3 ⟨rfl, hown3, hb3⟩
      have HO3 := Lib.hid hown3
      have HB3 := Lib.hid (HB2.out.trans (hb3.mono hz1))
      have hcl2 : (Lib.compact (sortL (headsL fs))).length ≤ k := by have := HCL.out; rw [HSL.out] at this; exact this
      have hcp := HKP.out
      have HJL : Hid ((Lib.join (Lib.compact (sortL (headsL fs))) []).length ≤ 1000000) := by have := HKL.out; rw [HL.out] at this; unfold Hid; omega
      clear hown3 hb3 HO2
      generalize Lib.compact (sortL (headsL fs)) = cs at *
      obtain ⟨m, hm⟩ : ∃ m, cs.length = m := ⟨_, rfl⟩
      rw [hm] at HO3 hcl2 hcp HR
      rw [hm]
      clear hm
      go_wp2_with fail
      refine (Calls.toExt (join_own ad5 m c5 w1.heap.size cs _ HO3.out hcp (by omega) HJL.out)).mono ?_
      rintro e _ ⟨rfl, x, rfl⟩
      go_wp2_with fail
      go_ret2
      refine ⟨?_, HB3.out.trans (x.2.mono (by have := HB3.out.size; omega))⟩
      rw [HR.out]
      have hdm : ((m : Int) == (k : Int)) = decide (m = k) := by rw [Bool.eq_iff_iff, beq_iff_eq, decide_eq_true_eq]; omega
      simp [Array.getD, hdm]
end Go.Proofs.YtaolbfbnjbpljaaDoor
