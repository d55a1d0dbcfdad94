/- Walks: the number of places of a term, by the reference. -/
import Derived.Test.YtkodnagneblgaaaGP
namespace Go.Proofs.Ytkodnagneblgaaa
open Go.RowKit Go.Maps Go.Sort
attribute [local go_sem] Ext.cell Ext.frozen
attribute [local go_sem ↓] Go.wp_at_zero Go.wp_at_succ
theorem cnt_step (keys : List ByteArray) (ps : List (Nat × Nat)) (k : ByteArray) (i : Nat) (hi : i < ps.length) : cntV keys (ps.take (i + 1)) k = cntV keys (ps.take i) k + (if keys.getD (ps.getD i (0, 0)).1 .empty = k then 1 else 0) := by
  rw [cntV_succ keys ps i hi]
  unfold updN
  by_cases e : keys.getD (ps.getD i (0, 0)).1 .empty = k
  · rw [if_pos e.symm, if_pos e, e]
  · rw [if_neg (fun h => e h.symm), if_neg e]
    rfl
theorem alike_key (a b : ByteArray) : alikeB a b = decide (keyB a = keyB b) := by
  rw [Bool.eq_iff_iff, alikeB_iff, decide_eq_true_eq]
set_option maxRecDepth 100000 in
set_option maxHeartbeats 4000000 in
theorem rcount_any (terms : List ByteArray) (ps : List (Nat × Nat)) (s : ByteArray) (ad : Option Addr) (n c : Nat) (ap : Option Addr) (N cp : Nat) (w : World) (ht : Sl w ad n (strs terms)) (hp : PrAt w ap N ps) (_hn : n ≤ 1000) (hN : N ≤ 1000001) (hz : ∀ s ∈ terms, s.size ≤ 1000000) (hs : s.size ≤ 1000000) (hm : ∀ p ∈ ps, p.1 < n) :
    Calls Try.prog 41 #[.slice ad n c, .slice ap N cp, .string s] w fun e w' => e = .returned (.int .i64 (cntV (terms.map keyB) ps (keyB s) : Int)) ∧ Below w.heap.size w w' := by
  have hl := ht.len
  rw [strs_length] at hl
  have HT := Lib.hid ht
  have HL := Lib.hid hl
  have HZ := Lib.hid hz
  have HP := Lib.hid hp
  have HN := Lib.hid hp.1
  have HM := Lib.hid hm
  have HA := Lib.hid (fun a W (h : a.size ≤ 1000000) => ralike_any a s W h hs)
  clear ht hl hz hp hm hs
  go_enter Try.func41, Try.ntmps41
  go_wp2_with fail
  go_loopw [7, 8] (fun v u wr => ∃ (i k : Nat), u = .int .i64 (i : Int) ∧ v = .int .i64 (k : Int) ∧ i ≤ N ∧ k ≤ i ∧ cntV (terms.map keyB) (ps.take i) (keyB s) = k ∧ Below w.heap.size w wr) (fun _ u _ => N - (intOf u).toNat)
  case atStart => exact ⟨0, 0, rfl, rfl, Nat.zero_le _, Nat.le_refl _, rfl, Below.refl _ _⟩
  case round =>
    obtain ⟨i, k, rfl, rfl, hin, hki, hk, hbl⟩ := hrel
    have HB := Lib.hid hbl
    have HK := Lib.hid hk
    clear hbl hk
    by_cases hlt : i < N
    · obtain ⟨_, pb, po, hrp⟩ := HP.out.below HB.out
      have hix := fun W => hrp.ix 42 45 Try.underlying42 cellsPair (by omega) hlt cp W
      have h0 := hrp.cell i 0 hlt (by omega)
      rw [Nat.add_zero] at h0
      simp only [prC] at h0
      have hmem := HM.out (ps.getD i (0, 0)) (getD_mem _ _ _ (by rw [HN.out]; exact hlt))
      have HCS := Lib.hid (cnt_step (terms.map keyB) ps (keyB s) i (by rw [HN.out]; exact hlt))
      rw [HK.out] at HCS
      have hlz : (i : Int) < (N : Int) := by omega
      clear hrp HK
      generalize ps.getD i (0, 0) = x at *
      obtain ⟨a, b⟩ := x
      simp only at h0 hmem HCS
      obtain ⟨tb, tq, hst⟩ := HT.out.below HB.out
      have hixt := fun W => hst.ix (c := c) 39 9 Try.underlying39 cellsStr hmem W
      have hct := hst.cell a hmem
      rw [strs_getD _ _ (by rw [HL.out]; exact hmem)] at hct
      have hke : (terms.map keyB).getD a .empty = keyB (terms.getD a .empty) := by
        rw [List.getD_eq_getElem?_getD, List.getElem?_map, List.getD_eq_getElem?_getD, List.getElem?_eq_getElem (by rw [HL.out]; exact hmem)]
        rfl
      rw [hke] at HCS
      have hsz := HZ.out (terms.getD a .empty) (getD_mem _ _ _ (by rw [HL.out]; exact hmem))
      have HA1 := Lib.hid (fun W => HA.out (terms.getD a .empty) W hsz)
      have hak := alike_key (terms.getD a .empty) s
      clear hst hke hsz
      by_cases e : keyB (terms.getD a .empty) = keyB s
      · rw [decide_eq_true e] at hak
        rw [hak] at HA1
        rw [if_pos e] at HCS
        clear hak e
        generalize terms.getD a .empty = st at *
        go_wp2_with fail
        refine (HA1.out _).mono ?_
        rintro e w4 ⟨rfl, hb⟩
        have HB4 := Lib.hid (HB.out.trans (hb.mono HB.out.size))
        clear hb
        go_wp2_with fail
        go_roundw
        case rel => exact ⟨i + 1, k + 1, by go_num, by go_num, by omega, by omega, HCS.out, HB4.out⟩
        case measure => simp [intOf]; omega
      · rw [decide_eq_false e] at hak
        rw [hak] at HA1
        rw [if_neg e] at HCS
        clear hak e
        generalize terms.getD a .empty = st at *
        go_wp2_with fail
        refine (HA1.out _).mono ?_
        rintro e w4 ⟨rfl, hb⟩
        have HB4 := Lib.hid (HB.out.trans (hb.mono HB.out.size))
        clear hb
        go_wp2_with fail
        go_roundw
        case rel => exact ⟨i + 1, k, by go_num, rfl, by omega, by omega, HCS.out, HB4.out⟩
        case measure => simp [intOf]; omega
    · obtain rfl : i = N := by omega
      have hk := HK.out
      rw [List.take_of_length_le (by rw [HN.out]; exact Nat.le_refl _)] at hk
      have HK2 := Lib.hid hk
      clear hk
      go_wp2_with fail
      go_ret
      exact ⟨by rw [HK2.out]; rfl, HB.out⟩
end Go.Proofs.Ytkodnagneblgaaa
