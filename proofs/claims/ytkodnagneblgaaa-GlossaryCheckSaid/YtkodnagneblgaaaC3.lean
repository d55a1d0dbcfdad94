/- Walks: keys, proper terms, lists of words that are the same. -/
import Derived.Test.YtkodnagneblgaaaC2
import Derived.Test.YtkodnagneblgaaaShelf
namespace Go.Proofs.Ytkodnagneblgaaa
open Go.RowKit
attribute [local go_sem] Ext.cell Ext.frozen
attribute [local go_sem ↓] Go.wp_at_zero Go.wp_at_succ
/-- the words as one string -/
def keyB (s : ByteArray) : ByteArray := bs (keyV s.data.toList)
theorem wordsB_data (s : ByteArray) : (wordsB s).map (·.data.toList) = wordsV s.data.toList := by
  unfold wordsB
  rw [List.map_map]
  exact List.map_id _
theorem keyB_inj {s t : ByteArray} : keyB s = keyB t ↔ wordsB s = wordsB t := by
  constructor
  · intro h
    have := keyV_inj.1 (bs_inj h)
    unfold wordsB
    rw [this]
  · intro h
    have h2 := congrArg (List.map (·.data.toList)) h
    rw [wordsB_data, wordsB_data] at h2
    unfold keyB keyV
    rw [h2]
theorem keyB_size (s : ByteArray) : (keyB s).size ≤ s.size + 1 := by
  unfold keyB
  rw [bs_size, ← show s.data.toList.length = s.size from ba_len s]
  exact keyV_len _
set_option maxHeartbeats 1000000 in
theorem key_any (s : ByteArray) (w : World) (hs : s.size ≤ 1000000) : Calls Try.prog 31 #[.string s] w fun e w' => e = .returned (.string (keyB s)) ∧ Below w.heap.size w w' := by
  have HWD := Lib.hid (words_any s)
  have hle := wordsB_le s
  have HJ : Hid (bs (Lib.join ((wordsB s).map (·.data.toList)) [32]) = keyB s) := by rw [Hid, wordsB_data]; rfl
  have HJL : Hid ((Lib.join ((wordsB s).map (·.data.toList)) [32]).length ≤ s.size + 1) := by
    have := keyB_size s
    rw [← HJ.out, bs_size] at this
    exact this
  go_enter Try.func31, Try.ntmps31
  go_wp2_with fail
  refine (HWD.out _ hs).mono ?_
  rintro e w1 ⟨ad, c, rfl, hown, hbl⟩
  have HBL := Lib.hid hbl
  have hz := hbl.size
  have HOWN := Lib.hid hown
  clear hbl hown
  rcases Decidable.em (wordsB s = []) with hn | hn
  · rw [hn] at HJ ⊢
    go_wp2_with fail
    refine (Try.strings_Join_none ad c _ _).mono ?_
    rintro e w2 ⟨rfl, rfl⟩
    go_wp2_with fail
    go_ret
    exact ⟨by rw [← HJ.out]; rfl, HBL.out⟩
  · have hlp := List.length_pos_iff.2 hn
    obtain ⟨b, off, hsa⟩ := Own.sl HOWN.out
    have hcap : (wordsB s).length ≤ c := by
      rcases HOWN.out.2 with ⟨_, h0⟩ | ⟨g, cap, cur, h1, _, _, h4, _⟩
      · omega
      · injection h1 with _ _ h3
        omega
    have ha := hsa.adr (by omega)
    subst ha
    have hcell : ∀ (j : Nat) x, (wordsB s)[j]? = some x → w1.cell? ⟨b, off + j, none⟩ = some (.string x) := fun j x hj => by
      have hjl := (List.getElem?_eq_some_iff.1 hj).1
      rw [hsa.cell j hjl, strs_getD _ _ hjl, List.getD, hj]; rfl
    have hblk := hsa.block (by omega)
    have HJN := Lib.hid (Try.strings_Join b off c (wordsB s) ⟨#[32]⟩ w1 hcell hblk (by omega) hcap (by have := HJL.out; exact Nat.le_trans this (by omega)))
    clear hsa hcell hblk hcap hlp
    have HJ2 : Hid ((⟨(Lib.join ((wordsB s).map (·.data.toList)) (⟨#[32]⟩ : ByteArray).data.toList).toArray⟩ : ByteArray) = keyB s) := HJ.out
    have hJN := HJN.out
    rw [HJ2.out] at hJN
    have HJN2 := Lib.hid hJN
    clear hJN HJN HJ2 HJ HJL
    go_wp2_with fail
    refine HJN2.out.mono ?_
    rintro e w2 ⟨rfl, hb2⟩
    have HB2 := Lib.hid (HBL.out.trans (hb2.mono hz))
    clear hb2
    go_wp2_with fail
    go_ret
    exact ⟨rfl, HB2.out⟩
/-- may be a term -/
def properB (s : ByteArray) : Bool := decide (1 ≤ (wordsB s).length) && decide ((wordsB s).length ≤ 10) && decide (s.size ≤ 200)
set_option maxHeartbeats 1000000 in
theorem proper_any (s : ByteArray) (w : World) (hs : s.size ≤ 1000000) : Calls Try.prog 32 #[.string s] w fun e w' => e = .returned (.bool (properB s)) ∧ Below w.heap.size w w' := by
  have HWD := Lib.hid (words_any s)
  have hp0 : properB s = (decide (1 ≤ (wordsB s).length) && decide ((wordsB s).length ≤ 10) && decide (s.size ≤ 200)) := rfl
  generalize properB s = pr at *
  go_enter Try.func32, Try.ntmps32
  go_wp2_with fail
  refine (HWD.out _ hs).mono ?_
  rintro e w1 ⟨ad, c, rfl, hown, hbl⟩
  have HBL := Lib.hid hbl
  clear hbl hown HWD
  generalize (wordsB s).length = n at *
  by_cases h1 : 1 ≤ n
  · have k1 : decide (1 ≤ n) = true := decide_eq_true h1
    have j1 : (1 : Int) ≤ (n : Int) := by omega
    have i1 : decide ((1 : Int) ≤ (n : Int)) = true := decide_eq_true j1
    by_cases h2 : n ≤ 10
    · have k2 : decide (n ≤ 10) = true := decide_eq_true h2
      have j2 : (n : Int) ≤ (10 : Int) := by omega
      have i2 : decide ((n : Int) ≤ (10 : Int)) = true := decide_eq_true j2
      have k3 : decide (s.size ≤ 200) = decide ((s.size : Int) ≤ 200) := by rw [Bool.eq_iff_iff, decide_eq_true_eq, decide_eq_true_eq]; omega
      rw [k1, k2, k3] at hp0
      have HP := Lib.hid hp0
      clear hp0 k1 k2 k3 h1 h2
      go_wp2_with fail
      go_ret
      exact ⟨by rw [HP.out]; rfl, HBL.out⟩
    · have k2 : decide (n ≤ 10) = false := decide_eq_false h2
      have j2 : ¬ (n : Int) ≤ (10 : Int) := by omega
      have i2 : decide ((n : Int) ≤ (10 : Int)) = false := decide_eq_false j2
      rw [k1, k2] at hp0
      have HP := Lib.hid hp0
      clear hp0 k1 k2 h1 h2
      go_wp2_with fail
      go_ret
      exact ⟨by rw [HP.out]; rfl, HBL.out⟩
  · have k1 : decide (1 ≤ n) = false := decide_eq_false h1
    have j1 : ¬ (1 : Int) ≤ (n : Int) := by omega
    have i1 : decide ((1 : Int) ≤ (n : Int)) = false := decide_eq_false j1
    rw [k1] at hp0
    have HP := Lib.hid hp0
    clear hp0 k1 h1
    go_wp2_with fail
    go_ret
    exact ⟨by rw [HP.out]; rfl, HBL.out⟩
set_option maxHeartbeats 1000000 in
theorem rproper_any (s : ByteArray) (w : World) (hs : s.size ≤ 1000000) : Calls Try.prog 33 #[.string s] w fun e w' => e = .returned (.bool (properB s)) ∧ Below w.heap.size w w' := by
  have HWD := Lib.hid (rwords_any s)
  have hp0 : properB s = (decide (1 ≤ (wordsB s).length) && decide ((wordsB s).length ≤ 10) && decide (s.size ≤ 200)) := rfl
  generalize properB s = pr at *
  go_enter Try.func33, Try.ntmps33
  go_wp2_with fail
  refine (HWD.out _ hs).mono ?_
  rintro e w1 ⟨ad, c, rfl, hown, hbl⟩
  have HBL := Lib.hid hbl
  clear hbl hown HWD
  generalize (wordsB s).length = n at *
  by_cases h1 : 1 ≤ n
  · have k1 : decide (1 ≤ n) = true := decide_eq_true h1
    have j1 : (1 : Int) ≤ (n : Int) := by omega
    have i1 : decide ((1 : Int) ≤ (n : Int)) = true := decide_eq_true j1
    by_cases h2 : n ≤ 10
    · have k2 : decide (n ≤ 10) = true := decide_eq_true h2
      have j2 : (n : Int) ≤ (10 : Int) := by omega
      have i2 : decide ((n : Int) ≤ (10 : Int)) = true := decide_eq_true j2
      have k3 : decide (s.size ≤ 200) = decide ((s.size : Int) ≤ 200) := by rw [Bool.eq_iff_iff, decide_eq_true_eq, decide_eq_true_eq]; omega
      rw [k1, k2, k3] at hp0
      have HP := Lib.hid hp0
      clear hp0 k1 k2 k3 h1 h2
      go_wp2_with fail
      go_ret
      exact ⟨by rw [HP.out]; rfl, HBL.out⟩
    · have k2 : decide (n ≤ 10) = false := decide_eq_false h2
      have j2 : ¬ (n : Int) ≤ (10 : Int) := by omega
      have i2 : decide ((n : Int) ≤ (10 : Int)) = false := decide_eq_false j2
      rw [k1, k2] at hp0
      have HP := Lib.hid hp0
      clear hp0 k1 k2 h1 h2
      go_wp2_with fail
      go_ret
      exact ⟨by rw [HP.out]; rfl, HBL.out⟩
  · have k1 : decide (1 ≤ n) = false := decide_eq_false h1
    have j1 : ¬ (1 : Int) ≤ (n : Int) := by omega
    have i1 : decide ((1 : Int) ≤ (n : Int)) = false := decide_eq_false j1
    rw [k1] at hp0
    have HP := Lib.hid hp0
    clear hp0 k1 h1
    go_wp2_with fail
    go_ret
    exact ⟨by rw [HP.out]; rfl, HBL.out⟩
/-- are two lists the same -/
def sameB (xs ys : List ByteArray) : Bool := decide (xs = ys)
theorem list_ext {xs ys : List ByteArray} (hl : xs.length = ys.length) (h : ∀ i, i < xs.length → xs.getD i .empty = ys.getD i .empty) : xs = ys := by
  refine List.ext_getElem hl fun i h1 h2 => ?_
  have := h i h1
  simpa [List.getD, List.getElem?_eq_getElem h1, List.getElem?_eq_getElem h2] using this
theorem ba_bne {x y : ByteArray} : (x.toList == y.toList) = decide (x = y) := by
  rw [Bool.eq_iff_iff, beq_iff_eq, decide_eq_true_eq]
  constructor
  · intro h
    exact ByteArray.ext (by simpa [ByteArray.toList_eq] using h)
  · intro h
    rw [h]
set_option maxHeartbeats 2000000 in
theorem rsame_any (ad : Option Addr) (n c : Nat) (ps : List ByteArray) (ad' : Option Addr) (n' c' : Nat) (qs : List ByteArray) (w : World) (hp : Sl w ad n (strs ps)) (hq : Sl w ad' n' (strs qs)) :
    Calls Try.prog 19 #[.slice ad n c, .slice ad' n' c'] w fun e w' => e = .returned (.bool (sameB ps qs)) ∧ Below w.heap.size w w' := by
  have hnm := hp.max
  have hnm' := hq.max
  obtain ⟨b, off, hp⟩ := hp
  obtain ⟨b', off', hq⟩ := hq
  have hl := hp.len
  have hl' := hq.len
  rw [strs_length] at hl hl'
  have HL := Lib.hid hl
  have HL' := Lib.hid hl'
  by_cases hn : n = n'
  · subst hn
    have HP := Lib.hid hp
    have HQ := Lib.hid hq
    clear hp hq
    go_enter Try.func19, Try.ntmps19
    go_wp2_with fail
    go_loopw [5] (fun i wr => ∃ (k : Nat), i = .int .i64 (k : Int) ∧ k ≤ n ∧ (∀ i, i < k → ps.getD i .empty = qs.getD i .empty) ∧ Below w.heap.size w wr) (fun i _ => n - (intOf i).toNat)
    case atStart => exact ⟨0, rfl, Nat.zero_le _, fun i hi => absurd hi (Nat.not_lt_zero _), Below.refl _ _⟩
    case round =>
      obtain ⟨k, rfl, hkn, hal, hbl⟩ := hrel
      have HAL := Lib.hid hal
      have HBL := Lib.hid hbl
      have hzr := hbl.size
      clear hal hbl
      by_cases hlt : k < n
      · have g1 := HP.out.below HBL.out
        have g2 := HQ.out.below HBL.out
        have hix1 := fun W => g1.ix (c := c) 39 9 Try.underlying39 cellsStr hlt W
        have hix2 := fun W => g2.ix (c := c') 39 9 Try.underlying39 cellsStr hlt W
        have h10 := g1.cell k hlt
        have h20 := g2.cell k hlt
        rw [strs_getD _ _ (by rw [HL.out]; exact hlt)] at h10
        rw [strs_getD _ _ (by rw [HL'.out]; exact hlt)] at h20
        clear g1 g2 hl hl'
        have HNX : Hid (ps.getD k .empty = qs.getD k .empty → ∀ i, i < k + 1 → ps.getD i .empty = qs.getD i .empty) := fun h i hi => by
          rcases Nat.lt_or_ge i k with h' | h'
          · exact HAL.out i h'
          · rw [show i = k by omega]; exact h
        have HNO : Hid (ps.getD k .empty ≠ qs.getD k .empty → sameB ps qs = false) := fun h => decide_eq_false (fun e => h (by rw [e]))
        generalize ps.getD k .empty = x at *
        generalize qs.getD k .empty = y at *
        by_cases he : x = y
        · have HN := Lib.hid (HNX.out he)
          subst he
          have kq : (x.toList == x.toList) = true := by simp
          clear HNX HNO
          go_wp2_with fail
          go_quiet (fail)
          go_wp2_with fail
          go_roundw
          case rel => exact ⟨k + 1, by go_num, by omega, HN.out, HBL.out.trans ⟨rfl, rfl, rfl, Nat.le_refl _, fun _ _ => rfl⟩⟩
          case measure => simp [intOf]; omega
        · have HN := Lib.hid (HNO.out he)
          have kq : (x.toList == y.toList) = false := by rw [ba_bne]; exact decide_eq_false he
          clear HNX HNO
          go_wp2_with fail
          go_quiet (fail)
          go_wp2_with fail
          go_ret
          exact ⟨by rw [HN.out]; rfl, HBL.out.trans ⟨rfl, rfl, rfl, Nat.le_refl _, fun _ _ => rfl⟩⟩
      · obtain rfl : k = n := by omega
        have HY : Hid (sameB ps qs = true) := decide_eq_true (list_ext (by rw [hl, hl']) (fun i hi => HAL.out i (by omega)))
        go_wp2_with fail
        go_ret
        exact ⟨by rw [HY.out]; rfl, HBL.out⟩
  · have HN : Hid (sameB ps qs = false) := decide_eq_false (fun e => hn (by rw [← hl, ← hl', e]))
    have hne : ((n : Int) == (n' : Int)) = false := by rw [beq_eq_false_iff_ne]; omega
    clear hp hq hl hl' hn
    go_enter Try.func19, Try.ntmps19
    go_wp2_with fail
    go_ret
    exact ⟨by rw [HN.out]; rfl, Below.refl _ _⟩
/-- have two strings the same words -/
def alikeB (a b : ByteArray) : Bool := sameB (wordsB a) (wordsB b)
theorem alikeB_iff {a b : ByteArray} : alikeB a b = true ↔ keyB a = keyB b := by
  unfold alikeB sameB
  rw [decide_eq_true_eq, keyB_inj]
set_option maxHeartbeats 1000000 in
theorem ralike_any (a b : ByteArray) (w : World) (ha : a.size ≤ 1000000) (hb : b.size ≤ 1000000) : Calls Try.prog 23 #[.string a, .string b] w fun e w' => e = .returned (.bool (alikeB a b)) ∧ Below w.heap.size w w' := by
  have HW1 := Lib.hid (rwords_any a)
  have HW2 := Lib.hid (rwords_any b)
  have HS : Hid (∀ ad n c ps ad' n' c' qs w, Sl w ad n (strs ps) → Sl w ad' n' (strs qs) → _) := rsame_any
  unfold alikeB
  go_enter Try.func23, Try.ntmps23
  go_wp2_with fail
  refine (HW1.out _ ha).mono ?_
  rintro e w1 ⟨ad, c, rfl, hown, hbl⟩
  have HB1 := Lib.hid hbl
  have hz1 := hbl.size
  have HO1 := Lib.hid (Own.sl hown)
  clear hbl hown
  go_wp2_with fail
  refine (HW2.out _ hb).mono ?_
  rintro e w2 ⟨ad2, c2, rfl, hown, hbl⟩
  have HB2 := Lib.hid (HB1.out.trans (hbl.mono hz1))
  have hz2 : w.heap.size ≤ w2.heap.size := HB2.out.size
  have HO2 := Lib.hid (Own.sl hown)
  have HO3 := Lib.hid (HO1.out.below hbl)
  clear hbl hown
  go_wp2_with fail
  refine (HS.out _ _ _ _ _ _ _ _ _ HO3.out HO2.out).mono ?_
  rintro e w3 ⟨rfl, hb3⟩
  have HB3 := Lib.hid (HB2.out.trans (hb3.mono hz2))
  clear hb3
  go_wp2_with fail
  go_ret
  exact ⟨rfl, HB3.out⟩
end Go.Proofs.Ytkodnagneblgaaa
