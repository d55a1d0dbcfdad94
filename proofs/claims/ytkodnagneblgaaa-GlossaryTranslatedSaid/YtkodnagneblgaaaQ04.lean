/- Walks: keys, proper terms, lists of words that are the same. -/
import Derived.Test.YtkodnagneblgaaaQ02
import Derived.Test.YtkodnagneblgaaaQ03
import Derived.Maps.RangeWalk
import Derived.Maps.OwnSet
import Derived.Maps.AppendAt
import Derived.Test.YtkodnagneblgaaaQ00
import Derived.Test.YtkodnagneblgaaaQ01
import Derived.Shelf.SlSortCmp.Insertion
namespace Go.Proofs.Ytkodnagneblgaaa
open Go.RowKit
attribute [local go_sem] Ext.cell Ext.frozen
attribute [local go_sem ↓] Go.wp_at_zero Go.wp_at_succ
/-- the words as one string -/
def keyB (s : ByteArray) : ByteArray := bs (keyV s.data.toList)
theorem wordsB_data (s : ByteArray) : (wordsB s).map (·.data.toList) = wordsV s.data.toList := by
  unfold wordsB
  rw [List.map_map]
  exact List.map_id _
theorem keyB_inj {s t : ByteArray} : keyB s = keyB t ↔ wordsB s = wordsB t := by
  constructor
  · intro h
    have := keyV_inj.1 (bs_inj h)
    unfold wordsB
    rw [this]
  · intro h
    have h2 := congrArg (List.map (·.data.toList)) h
    rw [wordsB_data, wordsB_data] at h2
    unfold keyB keyV
    rw [h2]
theorem keyB_size (s : ByteArray) : (keyB s).size ≤ s.size + 1 := by
  unfold keyB
  rw [bs_size, ← show s.data.toList.length = s.size from ba_len s]
  exact keyV_len _
set_option maxHeartbeats 1000000 in
theorem key_any (s : ByteArray) (w : World) (hs : s.size ≤ 1000000) : Calls Try.prog 31 #[.string s] w fun e w' => e = .returned (.string (keyB s)) ∧ Below w.heap.size w w' := by
  have HWD := Lib.hid (words_any s)
  have hle := wordsB_le s
  have HJ : Hid (bs (Lib.join ((wordsB s).map (·.data.toList)) [32]) = keyB s) := by rw [Hid, wordsB_data]; rfl
  have HJL : Hid ((Lib.join ((wordsB s).map (·.data.toList)) [32]).length ≤ s.size + 1) := by
    have := keyB_size s
    rw [← HJ.out, bs_size] at this
    exact this
  go_enter Try.func31, Try.ntmps31
  go_wp2_with fail
  refine (HWD.out _ hs).mono ?_
  rintro e w1 ⟨ad, c, rfl, hown, hbl⟩
  have HBL := Lib.hid hbl
  have hz := hbl.size
  have HOWN := Lib.hid hown
  clear hbl hown
  rcases Decidable.em (wordsB s = []) with hn | hn
  · rw [hn] at HJ ⊢
    go_wp2_with fail
    refine (Try.strings_Join_none ad c _ _).mono ?_
    rintro e w2 ⟨rfl, rfl⟩
    go_wp2_with fail
    go_ret
    exact ⟨by rw [← HJ.out]; rfl, HBL.out⟩
  · have hlp := List.length_pos_iff.2 hn
    obtain ⟨b, off, hsa⟩ := Own.sl HOWN.out
    have hcap : (wordsB s).length ≤ c := by
      rcases HOWN.out.2 with ⟨_, h0⟩ | ⟨g, cap, cur, h1, _, _, h4, _⟩
      · omega
      · injection h1 with _ _ h3
        omega
    have ha := hsa.adr (by omega)
    subst ha
    have hcell : ∀ (j : Nat) x, (wordsB s)[j]? = some x → w1.cell? ⟨b, off + j, none⟩ = some (.string x) := fun j x hj => by
      have hjl := (List.getElem?_eq_some_iff.1 hj).1
      rw [hsa.cell j hjl, strs_getD _ _ hjl, List.getD, hj]; rfl
    have hblk := hsa.block (by omega)
    have HJN := Lib.hid (Try.strings_Join b off c (wordsB s) ⟨#[32]⟩ w1 hcell hblk (by omega) hcap (by have := HJL.out; exact Nat.le_trans this (by omega)))
    clear hsa hcell hblk hcap hlp
    have HJ2 : Hid ((⟨(Lib.join ((wordsB s).map (·.data.toList)) (⟨#[32]⟩ : ByteArray).data.toList).toArray⟩ : ByteArray) = keyB s) := HJ.out
    have hJN := HJN.out
    rw [HJ2.out] at hJN
    have HJN2 := Lib.hid hJN
    clear hJN HJN HJ2 HJ HJL
    go_wp2_with fail
    refine HJN2.out.mono ?_
    rintro e w2 ⟨rfl, hb2⟩
    have HB2 := Lib.hid (HBL.out.trans (hb2.mono hz))
    clear hb2
    go_wp2_with fail
    go_ret
    exact ⟨rfl, HB2.out⟩
/-- may be a term -/
def properB (s : ByteArray) : Bool := decide (1 ≤ (wordsB s).length) && decide ((wordsB s).length ≤ 10) && decide (s.size ≤ 200)
set_option maxHeartbeats 1000000 in
theorem proper_any (s : ByteArray) (w : World) (hs : s.size ≤ 1000000) : Calls Try.prog 32 #[.string s] w fun e w' => e = .returned (.bool (properB s)) ∧ Below w.heap.size w w' := by
  have HWD := Lib.hid (words_any s)
  have hp0 : properB s = (decide (1 ≤ (wordsB s).length) && decide ((wordsB s).length ≤ 10) && decide (s.size ≤ 200)) := rfl
  generalize properB s = pr at *
  go_enter Try.func32, Try.ntmps32
  go_wp2_with fail
  refine (HWD.out _ hs).mono ?_
  rintro e w1 ⟨ad, c, rfl, hown, hbl⟩
  have HBL := Lib.hid hbl
  clear hbl hown HWD
  generalize (wordsB s).length = n at *
  by_cases h1 : 1 ≤ n
  · have k1 : decide (1 ≤ n) = true := decide_eq_true h1
    have j1 : (1 : Int) ≤ (n : Int) := by omega
    have i1 : decide ((1 : Int) ≤ (n : Int)) = true := decide_eq_true j1
    by_cases h2 : n ≤ 10
    · have k2 : decide (n ≤ 10) = true := decide_eq_true h2
      have j2 : (n : Int) ≤ (10 : Int) := by omega
      have i2 : decide ((n : Int) ≤ (10 : Int)) = true := decide_eq_true j2
      have k3 : decide (s.size ≤ 200) = decide ((s.size : Int) ≤ 200) := by rw [Bool.eq_iff_iff, decide_eq_true_eq, decide_eq_true_eq]; omega
      rw [k1, k2, k3] at hp0
      have HP := Lib.hid hp0
      clear hp0 k1 k2 k3 h1 h2
      go_wp2_with fail
      go_ret
      exact ⟨by rw [HP.out]; rfl, HBL.out⟩
    · have k2 : decide (n ≤ 10) = false := decide_eq_false h2
      have j2 : ¬ (n : Int) ≤ (10 : Int) := by omega
      have i2 : decide ((n : Int) ≤ (10 : Int)) = false := decide_eq_false j2
      rw [k1, k2] at hp0
      have HP := Lib.hid hp0
      clear hp0 k1 k2 h1 h2
      go_wp2_with fail
      go_ret
      exact ⟨by rw [HP.out]; rfl, HBL.out⟩
  · have k1 : decide (1 ≤ n) = false := decide_eq_false h1
    have j1 : ¬ (1 : Int) ≤ (n : Int) := by omega
    have i1 : decide ((1 : Int) ≤ (n : Int)) = false := decide_eq_false j1
    rw [k1] at hp0
    have HP := Lib.hid hp0
    clear hp0 k1 h1
    go_wp2_with fail
    go_ret
    exact ⟨by rw [HP.out]; rfl, HBL.out⟩
set_option maxHeartbeats 1000000 in
theorem rproper_any (s : ByteArray) (w : World) (hs : s.size ≤ 1000000) : Calls Try.prog 33 #[.string s] w fun e w' => e = .returned (.bool (properB s)) ∧ Below w.heap.size w w' := by
  have HWD := Lib.hid (rwords_any s)
  have hp0 : properB s = (decide (1 ≤ (wordsB s).length) && decide ((wordsB s).length ≤ 10) && decide (s.size ≤ 200)) := rfl
  generalize properB s = pr at *
  go_enter Try.func33, Try.ntmps33
  go_wp2_with fail
  refine (HWD.out _ hs).mono ?_
  rintro e w1 ⟨ad, c, rfl, hown, hbl⟩
  have HBL := Lib.hid hbl
  clear hbl hown HWD
  generalize (wordsB s).length = n at *
  by_cases h1 : 1 ≤ n
  · have k1 : decide (1 ≤ n) = true := decide_eq_true h1
    have j1 : (1 : Int) ≤ (n : Int) := by omega
    have i1 : decide ((1 : Int) ≤ (n : Int)) = true := decide_eq_true j1
    by_cases h2 : n ≤ 10
    · have k2 : decide (n ≤ 10) = true := decide_eq_true h2
      have j2 : (n : Int) ≤ (10 : Int) := by omega
      have i2 : decide ((n : Int) ≤ (10 : Int)) = true := decide_eq_true j2
      have k3 : decide (s.size ≤ 200) = decide ((s.size : Int) ≤ 200) := by rw [Bool.eq_iff_iff, decide_eq_true_eq, decide_eq_true_eq]; omega
      rw [k1, k2, k3] at hp0
      have HP := Lib.hid hp0
      clear hp0 k1 k2 k3 h1 h2
      go_wp2_with fail
      go_ret
      exact ⟨by rw [HP.out]; rfl, HBL.out⟩
    · have k2 : decide (n ≤ 10) = false := decide_eq_false h2
      have j2 : ¬ (n : Int) ≤ (10 : Int) := by omega
      have i2 : decide ((n : Int) ≤ (10 : Int)) = false := decide_eq_false j2
      rw [k1, k2] at hp0
      have HP := Lib.hid hp0
      clear hp0 k1 k2 h1 h2
      go_wp2_with fail
      go_ret
      exact ⟨by rw [HP.out]; rfl, HBL.out⟩
  · have k1 : decide (1 ≤ n) = false := decide_eq_false h1
    have j1 : ¬ (1 : Int) ≤ (n : Int) := by omega
    have i1 : decide ((1 : Int) ≤ (n : Int)) = false := decide_eq_false j1
    rw [k1] at hp0
    have HP := Lib.hid hp0
    clear hp0 k1 h1
    go_wp2_with fail
    go_ret
    exact ⟨by rw [HP.out]; rfl, HBL.out⟩
/-- are two lists the same -/
def sameB (xs ys : List ByteArray) : Bool := decide (xs = ys)
theorem list_ext {xs ys : List ByteArray} (hl : xs.length = ys.length) (h : ∀ i, i < xs.length → xs.getD i .empty = ys.getD i .empty) : xs = ys := by
  refine List.ext_getElem hl fun i h1 h2 => ?_
  have := h i h1
  simpa [List.getD, List.getElem?_eq_getElem h1, List.getElem?_eq_getElem h2] using this
theorem ba_bne {x y : ByteArray} : (x.toList == y.toList) = decide (x = y) := by
  rw [Bool.eq_iff_iff, beq_iff_eq, decide_eq_true_eq]
  constructor
  · intro h
    exact ByteArray.ext (by simpa [ByteArray.toList_eq] using h)
  · intro h
    rw [h]
set_option maxHeartbeats 2000000 in
theorem rsame_any (ad : Option Addr) (n c : Nat) (ps : List ByteArray) (ad' : Option Addr) (n' c' : Nat) (qs : List ByteArray) (w : World) (hp : Sl w ad n (strs ps)) (hq : Sl w ad' n' (strs qs)) :
    Calls Try.prog 19 #[.slice ad n c, .slice ad' n' c'] w fun e w' => e = .returned (.bool (sameB ps qs)) ∧ Below w.heap.size w w' := by
  have hnm := hp.max
  have hnm' := hq.max
  obtain ⟨b, off, hp⟩ := hp
  obtain ⟨b', off', hq⟩ := hq
  have hl := hp.len
  have hl' := hq.len
  rw [strs_length] at hl hl'
  have HL := Lib.hid hl
  have HL' := Lib.hid hl'
  by_cases hn : n = n'
  · subst hn
    have HP := Lib.hid hp
    have HQ := Lib.hid hq
    clear hp hq
    go_enter Try.func19, Try.ntmps19
    go_wp2_with fail
    go_loopw [5] (fun i wr => ∃ (k : Nat), i = .int .i64 (k : Int) ∧ k ≤ n ∧ (∀ i, i < k → ps.getD i .empty = qs.getD i .empty) ∧ Below w.heap.size w wr) (fun i _ => n - (intOf i).toNat)
    case atStart => exact ⟨0, rfl, Nat.zero_le _, fun i hi => absurd hi (Nat.not_lt_zero _), Below.refl _ _⟩
    case round =>
      obtain ⟨k, rfl, hkn, hal, hbl⟩ := hrel
      have HAL := Lib.hid hal
      have HBL := Lib.hid hbl
      have hzr := hbl.size
      clear hal hbl
      by_cases hlt : k < n
      · have g1 := HP.out.below HBL.out
        have g2 := HQ.out.below HBL.out
        have hix1 := fun W => g1.ix (c := c) 39 9 Try.underlying39 cellsStr hlt W
        have hix2 := fun W => g2.ix (c := c') 39 9 Try.underlying39 cellsStr hlt W
        have h10 := g1.cell k hlt
        have h20 := g2.cell k hlt
        rw [strs_getD _ _ (by rw [HL.out]; exact hlt)] at h10
        rw [strs_getD _ _ (by rw [HL'.out]; exact hlt)] at h20
        clear g1 g2 hl hl'
        have HNX : Hid (ps.getD k .empty = qs.getD k .empty → ∀ i, i < k + 1 → ps.getD i .empty = qs.getD i .empty) := fun h i hi => by
          rcases Nat.lt_or_ge i k with h' | h'
          · exact HAL.out i h'
          · rw [show i = k by omega]; exact h
        have HNO : Hid (ps.getD k .empty ≠ qs.getD k .empty → sameB ps qs = false) := fun h => decide_eq_false (fun e => h (by rw [e]))
        generalize ps.getD k .empty = x at *
        generalize qs.getD k .empty = y at *
        by_cases he : x = y
        · have HN := Lib.hid (HNX.out he)
          subst he
          have kq : (x.toList == x.toList) = true := by simp
          clear HNX HNO
          go_wp2_with fail
          go_quiet (fail)
          go_wp2_with fail
          go_roundw
          case rel => exact ⟨k + 1, by go_num, by omega, HN.out, HBL.out.trans ⟨rfl, rfl, rfl, Nat.le_refl _, fun _ _ => rfl⟩⟩
          case measure => simp [intOf]; omega
        · have HN := Lib.hid (HNO.out he)
          have kq : (x.toList == y.toList) = false := by rw [ba_bne]; exact decide_eq_false he
          clear HNX HNO
          go_wp2_with fail
          go_quiet (fail)
          go_wp2_with fail
          go_ret
          exact ⟨by rw [HN.out]; rfl, HBL.out.trans ⟨rfl, rfl, rfl, Nat.le_refl _, fun _ _ => rfl⟩⟩
      · obtain rfl : k = n := by omega
        have HY : Hid (sameB ps qs = true) := decide_eq_true (list_ext (by rw [hl, hl']) (fun i hi => HAL.out i (by omega)))
        go_wp2_with fail
        go_ret
        exact ⟨by rw [HY.out]; rfl, HBL.out⟩
  · have HN : Hid (sameB ps qs = false) := decide_eq_false (fun e => hn (by rw [← hl, ← hl', e]))
    have hne : ((n : Int) == (n' : Int)) = false := by rw [beq_eq_false_iff_ne]; omega
    clear hp hq hl hl' hn
    go_enter Try.func19, Try.ntmps19
    go_wp2_with fail
    go_ret
    exact ⟨by rw [HN.out]; rfl, Below.refl _ _⟩
/-- have two strings the same words -/
def alikeB (a b : ByteArray) : Bool := sameB (wordsB a) (wordsB b)
theorem alikeB_iff {a b : ByteArray} : alikeB a b = true ↔ keyB a = keyB b := by
  unfold alikeB sameB
  rw [decide_eq_true_eq, keyB_inj]
set_option maxHeartbeats 1000000 in
theorem ralike_any (a b : ByteArray) (w : World) (ha : a.size ≤ 1000000) (hb : b.size ≤ 1000000) : Calls Try.prog 23 #[.string a, .string b] w fun e w' => e = .returned (.bool (alikeB a b)) ∧ Below w.heap.size w w' := by
  have HW1 := Lib.hid (rwords_any a)
  have HW2 := Lib.hid (rwords_any b)
  have HS : Hid (∀ ad n c ps ad' n' c' qs w, Sl w ad n (strs ps) → Sl w ad' n' (strs qs) → _) := rsame_any
  unfold alikeB
  go_enter Try.func23, Try.ntmps23
  go_wp2_with fail
  refine (HW1.out _ ha).mono ?_
  rintro e w1 ⟨ad, c, rfl, hown, hbl⟩
  have HB1 := Lib.hid hbl
  have hz1 := hbl.size
  have HO1 := Lib.hid (Own.sl hown)
  clear hbl hown
  go_wp2_with fail
  refine (HW2.out _ hb).mono ?_
  rintro e w2 ⟨ad2, c2, rfl, hown, hbl⟩
  have HB2 := Lib.hid (HB1.out.trans (hbl.mono hz1))
  have hz2 : w.heap.size ≤ w2.heap.size := HB2.out.size
  have HO2 := Lib.hid (Own.sl hown)
  have HO3 := Lib.hid (HO1.out.below hbl)
  clear hbl hown
  go_wp2_with fail
  refine (HS.out _ _ _ _ _ _ _ _ _ HO3.out HO2.out).mono ?_
  rintro e w3 ⟨rfl, hb3⟩
  have HB3 := Lib.hid (HB2.out.trans (hb3.mono hz2))
  clear hb3
  go_wp2_with fail
  go_ret
  exact ⟨rfl, HB3.out⟩
end Go.Proofs.Ytkodnagneblgaaa
/- A map of slices of the call's own: the headers as data; what each of them owns. -/
namespace Go.Proofs.Ytkodnagneblgaaa
open Go.RowKit Go.Maps

/-- a slice's header, as a datum -/
def hdR : Value → Option (DataW Unit × List MemPlace)
  | .slice none 0 0 => some (.nil, [])
  | .slice (some ⟨b, o, none⟩) n c => some (.agg [.lit (.int .i64 (b : Int)), .lit (.int .i64 (o : Int)), .lit (.int .i64 (n : Int)), .lit (.int .i64 (c : Int))], [])
  | _ => none
theorem hdR_inv {v : Value} {d : DataW Unit} {p : List MemPlace} (h : hdR v = some (d, p)) : (v = .slice none 0 0 ∧ d = .nil) ∨ ∃ b o n c, v = .slice (some ⟨b, o, none⟩) n c ∧ d = .agg [.lit (.int .i64 (b : Int)), .lit (.int .i64 (o : Int)), .lit (.int .i64 (n : Int)), .lit (.int .i64 (c : Int))] := by
  unfold hdR at h
  split at h
  · cases h; exact .inl ⟨rfl, rfl⟩
  · cases h; exact .inr ⟨_, _, _, _, rfl, rfl⟩
  · cases h
theorem hdR_inj {v v' : Value} {d : DataW Unit} {p p' : List MemPlace} (h : hdR v = some (d, p)) (h' : hdR v' = some (d, p')) : v = v' := by
  rcases hdR_inv h with ⟨rfl, rfl⟩ | ⟨b, o, n, c, rfl, rfl⟩ <;> rcases hdR_inv h' with ⟨rfl, e⟩ | ⟨b', o', n', c', rfl, e⟩
  · rfl
  · cases e
  · cases e
  · simp only [DataW.agg.injEq, List.cons.injEq, DataW.lit.injEq, Lit.int.injEq, Int.natCast_inj, true_and, and_true] at e
    obtain ⟨rfl, rfl, rfl, rfl⟩ := e
    rfl
theorem hdR_own {w : World} {base : Nat} {E : TypeId} {sz : Nat} {v : Value} {n : Nat} {xs : List Value} (h : w.ownsRow base E sz v n xs) : ∃ d, hdR v = some (d, []) := by
  rcases h.2 with ⟨rfl, _⟩ | ⟨g, cap, cur, rfl, _⟩
  · exact ⟨_, rfl⟩
  · exact ⟨_, rfl⟩
theorem hdR_places {v : Value} {y : DataW Unit × List MemPlace} (h : hdR v = some y) : y = (y.1, []) := by
  unfold hdR at h
  split at h
  · cases h; rfl
  · cases h; rfl
  · cases h
theorem lawStr : Keyed Try.prog 9 := string_keyed Try.underlying9
/-- block M is a map of slices: at each key the header -/
def GM (w : World) (M n : Nat) (hd : ByteArray → Value) : Prop :=
  ∃ D : DataW Unit, w.ownsMap Try.prog 9 hdR M n D ∧ IsMap D ∧ (∀ s : ByteArray, s.size ≤ maxLen → hdR (hd s) = some (D.atKey (.string s.data.toList) .nil, [])) ∧ ∀ s : ByteArray, s.size ≤ maxLen → has D (.string s.data.toList) = true → hd s ≠ .slice none 0 0
theorem GM.made (w : World) : GM (w.alloc (.map #[] 0)) w.heap.size 0 (fun _ => .slice none 0 0) := ⟨.map [], World.ownsMap_made _ _ _ _, isMap_empty, fun _ _ => rfl, fun _ _ h => (by cases h)⟩
theorem GM.lt {w : World} {M n : Nat} {hd : ByteArray → Value} (h : GM w M n hd) : M < w.heap.size := by obtain ⟨D, h, _⟩ := h; exact h.lt
theorem GM.same {w w' : World} {M n : Nat} {hd : ByteArray → Value} (h : GM w M n hd) (hb : w'.heap[M]? = w.heap[M]?) : GM w' M n hd := by
  obtain ⟨D, ⟨es, clock, h1, h2⟩, h3⟩ := h
  exact ⟨D, ⟨es, clock, hb.trans h1, h2⟩, h3⟩
/-- the map's block is no row -/
theorem GM.apart {w : World} {M n : Nat} {hd : ByteArray → Value} (h : GM w M n hd) {base : Nat} {E : TypeId} {sz : Nat} {v : Value} {k : Nat} {xs : List Value} (hr : w.ownsRow base E sz v k xs) : some M ≠ v.ownBlock := by
  obtain ⟨D, ⟨es, clock, h1, _⟩, _⟩ := h
  rcases hr.2 with ⟨rfl, _⟩ | ⟨g, cap, cur, rfl, _, h3, _⟩
  · intro e; cases e
  · intro e
    injection e with e
    have e : M = g := e
    subst e
    rw [h1] at h3
    cases h3
theorem GM.kept {w w' : World} {M n : Nat} {hd : ByteArray → Value} (h : GM w M n hd) {row : Option Nat} (hg : w.grownBy w' row) (hne : some M ≠ row) : GM w' M n hd := h.same (hg.block M h.lt hne)
theorem keyStr {s : ByteArray} (hs : s.size ≤ maxLen) : keyOf Try.prog 9 (.string s) = some (.string s.data.toList) := WideMaps.keyOf_string_mk Try.underlying9 hs
theorem GM.look {w : World} {M n : Nat} {hd : ByteArray → Value} (h : GM w M n hd) (s : ByteArray) (hs : s.size ≤ maxLen) :
    (Instr.lookup 78 (.map (some M)) (.string s) false).run Try.prog w = .ok (hd s) w := by
  obtain ⟨D, h1, h2, h3, _⟩ := h
  obtain ⟨v, ps, hrun, hv⟩ := h1.lookup lawStr Try.underlying78 (Try.zeroValue93 w) (zd := .nil) (zp := []) rfl (keyStr hs)
  rw [hrun, hdR_inj hv (h3 s hs)]
/-- another header at one key -/
def updH (hd : ByteArray → Value) (s : ByteArray) (v : Value) : ByteArray → Value := fun t => if t = s then v else hd t
theorem GM.put {w : World} {M n : Nat} {hd : ByteArray → Value} (h : GM w M n hd) (s : ByteArray) (hs : s.size ≤ maxLen) (hn : n < maxLen) (v : Value) (d : DataW Unit) (hv : hdR v = some (d, [])) (hv0 : v ≠ .slice none 0 0) :
    ∃ w', (Instr.mapUpdate 78 (.map (some M)) (.string s) v).run Try.prog w = .ok () w' ∧ GM w' M (n + 1) (updH hd s v) ∧ w.grownBy w' (some M) := by
  obtain ⟨D, h1, h2, h3, h4⟩ := h
  obtain ⟨w', hrun, hown, hg⟩ := h1.update lawStr Try.underlying78 hn (keyStr hs) hv
  refine ⟨w', hrun, ⟨_, hown, h2.put _ _, fun t ht => ?_, fun t ht hh => ?_⟩, hg⟩
  · show hdR (if t = s then v else hd t) = _
    by_cases e : t = s
    · subst e
      rw [if_pos rfl, atKey_put_same h2 (lawStr.key (keyStr hs))]
      exact hv
    · rw [if_neg e, atKey_put_other (by intro e'; injection e' with e'; exact e (ByteArray.ext (Array.ext' e')))]
      exact h3 t ht
  · show (if t = s then v else hd t) ≠ _
    by_cases e : t = s
    · rw [if_pos e]; exact hv0
    · rw [if_neg e]
      rw [has_put_other (by intro e'; injection e' with e'; exact e (ByteArray.ext (Array.ext' e')))] at hh
      exact h4 t ht hh
/-- block r goes over the map; left: the keys that are still to come -/
def GR (w : World) (M r n : Nat) (hd : ByteArray → Value) (left : Lit → Bool) (cnt : Nat) : Prop :=
  ∃ D : DataW Unit, w.ranges Try.prog 9 hdR M r n D left cnt ∧ (∀ s : ByteArray, s.size ≤ maxLen → hdR (hd s) = some (D.atKey (.string s.data.toList) .nil, [])) ∧ ∀ s : ByteArray, s.size ≤ maxLen → has D (.string s.data.toList) = true → hd s ≠ .slice none 0 0
/-- a row of the call's own of numbers -/
def InR (w : World) (base : Nat) (v : Value) (ns : List Nat) : Prop := w.ownsRow base 3 1 v ns.length (ns.map fun (k : Nat) => Value.int .i64 (k : Int))
/-- a row of the call's own of strings -/
def StrR (w : World) (base : Nat) (v : Value) (l : List ByteArray) : Prop := w.ownsRow base 9 1 v l.length (strs l)
theorem StrR.form {w : World} {base : Nat} {v : Value} {l : List ByteArray} (h : StrR w base v l) : ∃ ad c, v = .slice ad l.length c := own_form h
theorem GR.kept {w w' : World} {M r n : Nat} {hd : ByteArray → Value} {left : Lit → Bool} {cnt : Nat} (h : GR w M r n hd left cnt) {row : Option Nat} (hg : w.grownBy w' row) (h1 : some M ≠ row) (h2 : some r ≠ row) : GR w' M r n hd left cnt := by
  obtain ⟨D, hr, h3⟩ := h
  exact ⟨D, hr.kept hg h1 h2, h3⟩
theorem GR.apart {w : World} {M r n : Nat} {hd : ByteArray → Value} {left : Lit → Bool} {cnt : Nat} (h : GR w M r n hd left cnt) {base : Nat} {E : TypeId} {sz : Nat} {v : Value} {k : Nat} {xs : List Value} (hr : w.ownsRow base E sz v k xs) : some M ≠ v.ownBlock ∧ some r ≠ v.ownBlock := by
  obtain ⟨D, ⟨es, clock, since, seen, c0, h1, _, _, _, h5, _⟩, _⟩ := h
  rcases hr.2 with ⟨rfl, _⟩ | ⟨g, cap, cur, rfl, _, h3, _⟩
  · exact ⟨fun e => (by cases e), fun e => (by cases e)⟩
  · refine ⟨fun e => ?_, fun e => ?_⟩
    · injection e with e
      have e : M = g := e
      subst e
      rw [h1] at h3
      cases h3
    · injection e with e
      have e : r = g := e
      subst e
      rw [h5] at h3
      cases h3
theorem GR.gm {w : World} {M r n : Nat} {hd : ByteArray → Value} {left : Lit → Bool} {cnt : Nat} (h : GR w M r n hd left cnt) : GM w M n hd := by
  obtain ⟨D, hr, h3⟩ := h
  obtain ⟨es, e, _⟩ := hr.owns.entries lawStr
  exact ⟨D, hr.owns, ⟨es, e⟩, h3.1, h3.2⟩
/-- a row of one type stays where the block that turns is of another -/
theorem own_kept_at {w w' : World} {b1 : Nat} {E1 T : TypeId} {s1 : Nat} {v1 : Value} {n1 k : Nat} {x1 : List Value} {cur : Array Value} {fr : Nat × Nat} (h1 : w.ownsRow b1 E1 s1 v1 n1 x1) (hk : w.heap[k]? = some (.cells cur T fr)) (hE : T ≠ E1) (hg : w.grownBy w' (some k)) :
    w'.ownsRow b1 E1 s1 v1 n1 x1 := h1.kept hg (by
  rcases h1.2 with ⟨rfl, _⟩ | ⟨g, cap, cur', rfl, _, h3, _⟩
  · exact .inl rfl
  · refine .inr (fun e => ?_)
    injection e with e
    have e : g = k := e
    subst e
    rw [hk] at h3
    injection h3 with h3
    injection h3 with _ h4
    exact hE h4)
theorem own_kept_map {w w' : World} {b1 : Nat} {E1 : TypeId} {s1 : Nat} {v1 : Value} {n1 M n : Nat} {x1 : List Value} {hd : ByteArray → Value} (h1 : w.ownsRow b1 E1 s1 v1 n1 x1) (hm : GM w M n hd) (hg : w.grownBy w' (some M)) : w'.ownsRow b1 E1 s1 v1 n1 x1 :=
  h1.kept hg (.inr (fun e => hm.apart h1 e.symm))
theorem own_kept_none {w w' : World} {b1 : Nat} {E1 : TypeId} {s1 : Nat} {v1 : Value} {n1 : Nat} {x1 : List Value} (h1 : w.ownsRow b1 E1 s1 v1 n1 x1) (hg : w.grownBy w' none) : w'.ownsRow b1 E1 s1 v1 n1 x1 := h1.kept hg (by cases v1.ownBlock <;> simp)
theorem grown_setCell (w : World) (k j : Nat) (v : Value) : w.grownBy (w.setCell ⟨k, j, none⟩ v) (some k) := ⟨rfl, rfl, rfl, by simp [World.setCell], fun i _ hi => Below.heap_setCell w _ _ i (fun e => hi (by simp only at e; rw [e]))⟩
theorem grown_none {w w' : World} (h : Below w.heap.size w w') : w.grownBy w' none := ⟨h.os, h.tape, h.output, h.size, fun i hi _ => h.block i hi⟩
end Go.Proofs.Ytkodnagneblgaaa
/- Plain: the library's stable merge, on functions of places. -/
namespace Go.Proofs.Ytkodnagneblgaaa

/-- sorted between two places -/
def SortO (R : Int → Int → Prop) (z : Nat → Int) (a b : Nat) : Prop := ∀ i j, a ≤ i → i < j → j < b → R (z i) (z j)
/-- each on the left is less than each on the right -/
def CrossO (z : Nat → Int) (a m b : Nat) : Prop := ∀ i j, a ≤ i → i < m → m ≤ j → j < b → z i < z j
/-- the same members between two places -/
def MemO (z z' : Nat → Int) (a b : Nat) : Prop := (∀ i, a ≤ i → i < b → ∃ j, a ≤ j ∧ j < b ∧ z' i = z j) ∧ ∀ j, a ≤ j → j < b → ∃ i, a ≤ i ∧ i < b ∧ z' i = z j
/-- the same outside -/
def SameO (z z' : Nat → Int) (a b : Nat) : Prop := ∀ i, i < a ∨ b ≤ i → z' i = z i
/-- what lies between a and m has gone behind what lay between m and b -/
def RotO (z z' : Nat → Int) (a m b : Nat) : Prop := (∀ x, x < b - m → z' (a + x) = z (m + x)) ∧ (∀ x, x < m - a → z' (a + (b - m) + x) = z (a + x)) ∧ SameO z z' a b
/-- two ranges of n places have changed places -/
def SwapO (z z' : Nat → Int) (a b n : Nat) : Prop := (∀ x, x < n → z' (a + x) = z (b + x) ∧ z' (b + x) = z (a + x)) ∧ ∀ i, (i < a ∨ a + n ≤ i) → (i < b ∨ b + n ≤ i) → z' i = z i
theorem MemO.refl (z : Nat → Int) (a b : Nat) : MemO z z a b := ⟨fun i h1 h2 => ⟨i, h1, h2, rfl⟩, fun i h1 h2 => ⟨i, h1, h2, rfl⟩⟩
theorem MemO.trans {z z' z'' : Nat → Int} {a b : Nat} (h : MemO z z' a b) (h' : MemO z' z'' a b) : MemO z z'' a b := by
  refine ⟨fun i h1 h2 => ?_, fun j h1 h2 => ?_⟩
  · obtain ⟨j, j1, j2, e⟩ := h'.1 i h1 h2
    obtain ⟨k, k1, k2, e2⟩ := h.1 j j1 j2
    exact ⟨k, k1, k2, e.trans e2⟩
  · obtain ⟨i, i1, i2, e⟩ := h.2 j h1 h2
    obtain ⟨k, k1, k2, e2⟩ := h'.2 i i1 i2
    exact ⟨k, k1, k2, e2.trans e⟩
/-- members of a part are members of the whole, where the rest is the same -/
theorem MemO.widen {z z' : Nat → Int} {a b c d : Nat} (h : MemO z z' a b) (hs : SameO z z' a b) (hc : c ≤ a) (hd : b ≤ d) : MemO z z' c d := by
  refine ⟨fun i h1 h2 => ?_, fun j h1 h2 => ?_⟩
  · by_cases hi : a ≤ i ∧ i < b
    · obtain ⟨j, j1, j2, e⟩ := h.1 i hi.1 hi.2
      exact ⟨j, by omega, by omega, e⟩
    · exact ⟨i, h1, h2, hs i (by omega)⟩
  · by_cases hi : a ≤ j ∧ j < b
    · obtain ⟨i, i1, i2, e⟩ := h.2 j hi.1 hi.2
      exact ⟨i, by omega, by omega, e⟩
    · exact ⟨j, h1, h2, hs j (by omega)⟩
theorem SameO.refl (z : Nat → Int) (a b : Nat) : SameO z z a b := fun _ _ => rfl
theorem SameO.trans {z z' z'' : Nat → Int} {a b : Nat} (h : SameO z z' a b) (h' : SameO z' z'' a b) : SameO z z'' a b := fun i hi => (h' i hi).trans (h i hi)
theorem SameO.widen {z z' : Nat → Int} {a b c d : Nat} (h : SameO z z' a b) (hc : c ≤ a) (hd : b ≤ d) : SameO z z' c d := fun i hi => h i (by omega)
theorem RotO.mem {z z' : Nat → Int} {a m b : Nat} (h : RotO z z' a m b) (h1 : a ≤ m) (h2 : m ≤ b) : MemO z z' a b := by
  obtain ⟨r1, r2, _⟩ := h
  refine ⟨fun i i1 i2 => ?_, fun j j1 j2 => ?_⟩
  · by_cases hi : i - a < b - m
    · refine ⟨m + (i - a), by omega, by omega, ?_⟩
      have := r1 (i - a) hi
      rwa [show a + (i - a) = i by omega] at this
    · refine ⟨a + (i - a - (b - m)), by omega, by omega, ?_⟩
      have := r2 (i - a - (b - m)) (by omega)
      rwa [show a + (b - m) + (i - a - (b - m)) = i by omega] at this
  · by_cases hj : j < m
    · refine ⟨a + (b - m) + (j - a), by omega, by omega, ?_⟩
      have := r2 (j - a) (by omega)
      rwa [show a + (j - a) = j by omega] at this
    · refine ⟨a + (j - m), by omega, by omega, ?_⟩
      have := r1 (j - m) (by omega)
      rwa [show m + (j - m) = j by omega] at this
/-- nothing to rotate -/
theorem RotO.none {z : Nat → Int} {a m b : Nat} (h : a = m ∨ m = b) : RotO z z a m b := by
  refine ⟨fun x hx => ?_, fun x hx => ?_, SameO.refl _ _ _⟩
  · rcases h with h | h
    · rw [h]
    · omega
  · rcases h with h | h
    · omega
    · rw [h, Nat.sub_self, Nat.add_zero]
/-- the merge's step: the halves behind the rotation, sorted, are the whole, sorted -/
theorem sym_done {R : Int → Int → Prop} {z z1 z2 z3 : Nat → Int} {a start m end' b mid : Nat} (h1 : a ≤ start) (h2 : start ≤ m) (h3 : m ≤ end') (h4 : end' ≤ b) (h5 : end' - m + start = mid)
    (s1 : SortO R z a m) (s2 : SortO R z m b) (A : ∀ i j, a ≤ i → i < start → end' ≤ j → j < b → R (z i) (z j)) (B : ∀ i j, start ≤ i → i < m → m ≤ j → j < end' → R (z j) (z i))
    (hr : RotO z z1 start m end') (m2 : MemO z1 z2 a mid) (e2 : SameO z1 z2 a mid) (t2 : SortO R z2 a mid) (m3 : MemO z2 z3 mid b) (e3 : SameO z2 z3 mid b) (t3 : SortO R z3 mid b) :
    SortO R z3 a b ∧ MemO z z3 a b ∧ SameO z z3 a b := by
  have hm1 : MemO z z1 a b := (hr.mem h2 h3).widen hr.2.2 h1 h4
  have he1 : SameO z z1 a b := hr.2.2.widen h1 h4
  refine ⟨fun i j hi hij hj => ?_, (hm1.trans (m2.widen e2 (Nat.le_refl _) (by omega))).trans (m3.widen e3 (by omega) (Nat.le_refl _)), (he1.trans (e2.widen (Nat.le_refl _) (by omega))).trans (e3.widen (by omega) (Nat.le_refl _))⟩
  -- where a value of the first half comes from, and one of the second
  have lo : ∀ i, a ≤ i → i < mid → ∃ k, z1 i = z k ∧ ((a ≤ k ∧ k < start) ∨ (m ≤ k ∧ k < end')) := fun i i1 i2 => by
    by_cases hk : i < start
    · exact ⟨i, hr.2.2 i (.inl hk), .inl ⟨i1, hk⟩⟩
    · refine ⟨m + (i - start), ?_, .inr ⟨by omega, by omega⟩⟩
      have := hr.1 (i - start) (by omega)
      rwa [show start + (i - start) = i by omega] at this
  have hi' : ∀ i, mid ≤ i → i < b → ∃ k, z1 i = z k ∧ ((start ≤ k ∧ k < m) ∨ (end' ≤ k ∧ k < b)) := fun i i1 i2 => by
    by_cases hk : end' ≤ i
    · exact ⟨i, hr.2.2 i (.inr hk), .inr ⟨hk, i2⟩⟩
    · refine ⟨start + (i - mid), ?_, .inl ⟨by omega, by omega⟩⟩
      have := hr.2.1 (i - mid) (by omega)
      rwa [show start + (end' - m) + (i - mid) = i by omega] at this
  by_cases hj2 : j < mid
  · rw [e3 i (.inl (by omega)), e3 j (.inl hj2)]
    exact t2 i j hi hij hj2
  · by_cases hi2 : i < mid
    · rw [e3 i (.inl hi2)]
      obtain ⟨i', i1, i2, ei⟩ := m2.1 i hi hi2
      obtain ⟨j', j1, j2, ej⟩ := m3.1 j (by omega) hj
      rw [e2 j' (.inr j1)] at ej
      rw [ei, ej]
      obtain ⟨k, ek, hk⟩ := lo i' i1 i2
      obtain ⟨l, el, hl⟩ := hi' j' j1 j2
      rw [ek, el]
      rcases hk with hk | hk <;> rcases hl with hl | hl
      · exact s1 k l hk.1 (by omega) hl.2
      · exact A k l hk.1 hk.2 hl.1 hl.2
      · exact B l k hl.1 hl.2 hk.1 hk.2
      · exact s2 k l hk.1 (by omega) hl.2
    · exact t3 i j (by omega) hij hj
/-- what the binary search finds: below it the left ones come first, from it on the right ones -/
theorem sym_A {R : Int → Int → Prop} (tr : ∀ x y z, R x y → R y z → R x z) {z : Nat → Int} {a start m end' b : Nat} (s1 : SortO R z a m) (s2 : SortO R z m b) (h2 : start ≤ m) (h3 : m ≤ end') (h : a < start → end' < b → R (z (start - 1)) (z end')) :
    ∀ i j, a ≤ i → i < start → end' ≤ j → j < b → R (z i) (z j) := fun i j i1 i2 j1 j2 => by
  have h0 := h (by omega) (by omega)
  have k1 : i = start - 1 ∨ R (z i) (z (start - 1)) := by
    by_cases e : i = start - 1
    · exact .inl e
    · exact .inr (s1 i (start - 1) i1 (by omega) (by omega))
  have k2 : j = end' ∨ R (z end') (z j) := by
    by_cases e : j = end'
    · exact .inl e
    · exact .inr (s2 end' j h3 (by omega) j2)
  rcases k1 with e1 | e1 <;> rcases k2 with e2 | e2
  · rw [e1, e2]; exact h0
  · rw [e1]; exact tr _ _ _ h0 e2
  · rw [e2]; exact tr _ _ _ e1 h0
  · exact tr _ _ _ (tr _ _ _ e1 h0) e2
theorem sym_B {R : Int → Int → Prop} (tr : ∀ x y z, R x y → R y z → R x z) {z : Nat → Int} {a start m end' b : Nat} (s1 : SortO R z a m) (s2 : SortO R z m b) (h1 : a ≤ start) (h4 : end' ≤ b) (h : start < m → m < end' → R (z (end' - 1)) (z start)) :
    ∀ i j, start ≤ i → i < m → m ≤ j → j < end' → R (z j) (z i) := fun i j i1 i2 j1 j2 => by
  have h0 := h (by omega) (by omega)
  have k1 : i = start ∨ R (z start) (z i) := by
    by_cases e : i = start
    · exact .inl e
    · exact .inr (s1 start i h1 (by omega) i2)
  have k2 : j = end' - 1 ∨ R (z j) (z (end' - 1)) := by
    by_cases e : j = end' - 1
    · exact .inl e
    · exact .inr (s2 j (end' - 1) j1 (by omega) (by omega))
  rcases k1 with e1 | e1 <;> rcases k2 with e2 | e2
  · rw [e1, e2]; exact h0
  · rw [e1]; exact tr _ _ _ e2 h0
  · rw [e2]; exact tr _ _ _ h0 e1
  · exact tr _ _ _ (tr _ _ _ e2 h0) e1
/-- the rotation's loop: what is left to rotate, i places ahead of m and j behind -/
def RotI (z T : Nat → Int) (m i j : Nat) : Prop := (∀ x, x < j → T (m - i + x) = z (m + x)) ∧ (∀ x, x < i → T (m - i + j + x) = z (m - i + x)) ∧ ∀ x, x < m - i ∨ m + j ≤ x → T x = z x
theorem RotI.left {z z' T : Nat → Int} {m i j : Nat} (h : RotI z T m i j) (hi : i ≤ m) (hij : j < i) (hs : SwapO z z' (m - i) m j) : RotI z' T m (i - j) j := by
  obtain ⟨h1, h2, h3⟩ := h
  obtain ⟨s1, s2⟩ := hs
  refine ⟨fun x hx => ?_, fun x hx => ?_, fun x hx => ?_⟩
  · rw [(s1 x hx).2, show m - (i - j) + x = m - i + j + x by omega, h2 x (by omega)]
  · rw [show m - (i - j) + j + x = m - i + j + (j + x) by omega, h2 (j + x) (by omega), s2 (m - (i - j) + x) (by omega) (by omega), show m - (i - j) + x = m - i + (j + x) by omega]
  · by_cases hx2 : m - i ≤ x ∧ x < m - i + j
    · have := h1 (x - (m - i)) (by omega)
      rw [show m - i + (x - (m - i)) = x by omega] at this
      rw [this]
      have := (s1 (x - (m - i)) (by omega)).1
      rw [show m - i + (x - (m - i)) = x by omega] at this
      exact this.symm
    · rw [s2 x (by omega) (by omega)]
      exact h3 x (by omega)
theorem RotI.right {z z' T : Nat → Int} {m i j : Nat} (h : RotI z T m i j) (hi : i ≤ m) (hij : i < j) (hs : SwapO z z' (m - i) (m + j - i) i) : RotI z' T m i (j - i) := by
  obtain ⟨h1, h2, h3⟩ := h
  obtain ⟨s1, s2⟩ := hs
  refine ⟨fun x hx => ?_, fun x hx => ?_, fun x hx => ?_⟩
  · rw [h1 x (by omega), s2 (m + x) (by omega) (by omega)]
  · rw [(s1 x hx).1, show m - i + (j - i) + x = m - i + ((j - i) + x) by omega, h1 ((j - i) + x) (by omega), show m + ((j - i) + x) = m + j - i + x by omega]
  · by_cases hx2 : m + j - i ≤ x ∧ x < m + j
    · have := h2 (x - (m + j - i)) (by omega)
      rw [show m - i + j + (x - (m + j - i)) = x by omega] at this
      rw [this]
      have := (s1 (x - (m + j - i)) (by omega)).2
      rw [show m + j - i + (x - (m + j - i)) = x by omega] at this
      exact this.symm
    · rw [s2 x (by omega) (by omega)]
      exact h3 x (by omega)
theorem RotI.done {z z' T : Nat → Int} {m i : Nat} (h : RotI z T m i i) (hi : i ≤ m) (hs : SwapO z z' (m - i) m i) : z' = T := by
  obtain ⟨h1, h2, h3⟩ := h
  obtain ⟨s1, s2⟩ := hs
  funext x
  by_cases hx : m - i ≤ x ∧ x < m
  · have e1 := h1 (x - (m - i)) (by omega)
    have e2 := (s1 (x - (m - i)) (by omega)).1
    rw [show m - i + (x - (m - i)) = x by omega] at e1 e2
    rw [e1, e2]
  · by_cases hx2 : m ≤ x ∧ x < m + i
    · have e1 := h2 (x - m) (by omega)
      have e2 := (s1 (x - m) (by omega)).2
      rw [show m - i + i + (x - m) = x by omega] at e1
      rw [show m + (x - m) = x by omega] at e2
      rw [e1, e2]
    · rw [s2 x (by omega) (by omega), h3 x (by omega)]
/-- the rotated function -/
def rotF (z : Nat → Int) (a m b : Nat) (x : Nat) : Int := if x < a ∨ b ≤ x then z x else if x - a < b - m then z (m + (x - a)) else z (a + (x - a - (b - m)))
theorem rotF_start {z : Nat → Int} {a m b : Nat} (h1 : a ≤ m) (h2 : m ≤ b) : RotI z (rotF z a m b) m (m - a) (b - m) := by
  refine ⟨fun x hx => ?_, fun x hx => ?_, fun x hx => ?_⟩
  · unfold rotF
    rw [if_neg (by omega), if_pos (by omega), show m + (m - (m - a) + x - a) = m + x by omega]
  · unfold rotF
    rw [if_neg (by omega), if_neg (by omega), show a + (m - (m - a) + (b - m) + x - a - (b - m)) = m - (m - a) + x by omega]
  · unfold rotF
    rw [if_pos (by omega)]
theorem rotF_rot (z : Nat → Int) {a m b : Nat} (h1 : a ≤ m) (h2 : m ≤ b) : RotO z (rotF z a m b) a m b := by
  refine ⟨fun x hx => ?_, fun x hx => ?_, fun x hx => ?_⟩
  · unfold rotF
    rw [if_neg (by omega), if_pos (by omega), show m + (a + x - a) = m + x by omega]
  · unfold rotF
    rw [if_neg (by omega), if_neg (by omega), show a + (a + (b - m) + x - a - (b - m)) = a + x by omega]
  · unfold rotF
    rw [if_pos hx]
end Go.Proofs.Ytkodnagneblgaaa
/- Walks: the library's swapRange and rotate, on a row of numbers. -/
namespace Go.Proofs.Ytkodnagneblgaaa
open Go.RowKit Go.Sort
attribute [local go_sem ↓] Go.wp_at_zero Go.wp_at_succ
abbrev encI {K : Nat} (x : Fin (K + 1)) : Value := Value.int .i64 (x.val : Int)
/-- what stands at a place -/
abbrev zOf {K : Nat} (d : Array (Fin (K + 1))) (i : Nat) : Int := ((d[i]!).val : Int)
theorem swp_at {K : Nat} {d : Array (Fin (K + 1))} {i j : Nat} (hi : i < d.size) (hj : j < d.size) (hij : i ≠ j) (k : Nat) : (swp d i j)[k]! = if k = i then d[j]! else if k = j then d[i]! else d[k]! := by
  by_cases h1 : k = i
  · subst h1
    rw [if_pos rfl]
    exact swp_left d k j hi hij
  · rw [if_neg h1]
    by_cases h2 : k = j
    · subst h2
      rw [if_pos rfl]
      exact swp_right d i k hj
    · rw [if_neg h2]
      exact swp_other d i j k h1 h2
theorem SwapO.step {K : Nat} {z : Nat → Int} {d : Array (Fin (K + 1))} {a b i : Nat} (h : SwapO z (zOf d) a b i) (hab : a + i < b) (hb : b + i < d.size) : SwapO z (zOf (swp d (a + i) (b + i))) a b (i + 1) := by
  obtain ⟨h1, h2⟩ := h
  refine ⟨fun x hx => ?_, fun k k1 k2 => ?_⟩
  · unfold zOf
    rw [swp_at (by omega) hb (by omega), swp_at (by omega) hb (by omega)]
    by_cases hxi : x = i
    · subst hxi
      rw [if_pos rfl, if_neg (by omega), if_pos rfl]
      exact ⟨h2 (b + x) (by omega) (by omega), h2 (a + x) (by omega) (by omega)⟩
    · rw [if_neg (by omega), if_neg (by omega), if_neg (by omega), if_neg (by omega)]
      exact h1 x (by omega)
  · unfold zOf
    rw [swp_at (by omega) hb (by omega), if_neg (by omega), if_neg (by omega)]
    exact h2 k (by omega) (by omega)
set_option maxRecDepth 20000 in
set_option maxHeartbeats 4000000 in
theorem swapRange_any {K : Nat} (blk off cap a b n : Nat) (fv : Value) (d : Array (Fin (K + 1))) (w : World) (hH : Holds encI w blk off d) (hab : a + n ≤ b) (hb : b + n ≤ d.size) (hsz : d.size < 4611686018427387904) :
    Calls Try.prog 61 #[.slice (some ⟨blk, off, none⟩) d.size cap, .int .i64 a, .int .i64 b, .int .i64 n, fv] w fun e w' => e = .returned (.tuple #[]) ∧
      ∃ (q : Nat) (d' : Array (Fin (K + 1))), d'.size = d.size ∧ SwapO (zOf d) (zOf d') a b n ∧ w' = (putRow encI w blk off d').drewN q := by
  have HST : Hid (w = (putRow encI w blk off d).drewN 0) := (putRow_self encI w blk off d hH).symm
  have HH : Hid (Holds encI w blk off d) := hH
  clear hH
  go_enter Try.func61, Try.ntmps61
  go_wp2_with fail
  go_loopw [10] (fun v wr => ∃ (i q : Nat) (dk : Array (Fin (K + 1))), v = .int .i64 (i : Int) ∧ i ≤ n ∧ dk.size = d.size ∧ SwapO (zOf d) (zOf dk) a b i ∧ wr = (putRow encI w blk off dk).drewN q) (fun v _ => n - (intOf v).toNat)
  case atStart => exact ⟨0, 0, d, rfl, Nat.zero_le _, rfl, ⟨fun x hx => absurd hx (Nat.not_lt_zero _), fun _ _ _ => rfl⟩, HST.out⟩
  case round =>
    obtain ⟨i, q, dk, rfl, hin, hsk, hsw, rfl⟩ := hrel
    have HSW := Lib.hid hsw
    clear hsw
    by_cases hlt : i < n
    · have hHk := holds_putRow encI w blk off d dk HH.out hsk
      obtain ⟨ca, fa⟩ := hHk (a + i) (by omega)
      obtain ⟨cb, fb⟩ := hHk (b + i) (by omega)
      have HNX := Lib.hid (HSW.out.step (by omega) (by omega))
      have HSP := Lib.hid (swap_worldC encI w blk off dk q (a + i) (b + i) (by omega) (by omega))
      have HSZ := Lib.hid ((size_swp dk (a + i) (b + i)).trans hsk)
      obtain ⟨A, hA⟩ : ∃ A, a + i = A := ⟨_, rfl⟩
      obtain ⟨B, hB⟩ : ∃ B, b + i = B := ⟨_, rfl⟩
      have eA : (a : Int) + (i : Int) = (A : Int) := by omega
      have eB : (b : Int) + (i : Int) = (B : Int) := by omega
      have lA : (A : Int) < (d.size : Int) := by omega
      have lB : (B : Int) < (d.size : Int) := by omega
      rw [hA, hB] at HNX HSP HSZ
      rw [hA] at ca fa
      rw [hB] at cb fb
      have ca' : ((putRow encI w blk off dk).drewN q).cell? ⟨blk, off + A, none⟩ = some (encI dk[A]!) := ca
      have cb' : ((putRow encI w blk off dk).drewN q).cell? ⟨blk, off + B, none⟩ = some (encI dk[B]!) := cb
      have fa' : ((putRow encI w blk off dk).drewN q).frozen? ⟨blk, off + A, none⟩ = false := fa
      have fb' : ((putRow encI w blk off dk).drewN q).frozen? ⟨blk, off + B, none⟩ = false := fb
      have hAB : off + A ≠ off + B := by omega
      clear ca cb fa fb hHk HSW hA hB
      generalize swp dk A B = d2 at *
      generalize dk[A]! = xa at *
      generalize dk[B]! = xb at *
      generalize hwq : (putRow encI w blk off dk).drewN q = wq at *
      clear hwq
      go_wp2_with fail
      go_big_region
      all_goals go_wp2_with fail
      go_roundw
      case rel => exact ⟨i + 1, q + 1, d2, by go_num, by omega, HSZ.out, HNX.out, HSP.out⟩
      case measure => simp [intOf]; omega
    · obtain rfl : i = n := by omega
      go_wp2_with fail
      go_end0
      exact ⟨rfl, q, dk, hsk, HSW.out, rfl⟩
end Go.Proofs.Ytkodnagneblgaaa
