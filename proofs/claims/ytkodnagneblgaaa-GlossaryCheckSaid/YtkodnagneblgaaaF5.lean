/- Walks: counts of terms, by the program. -/
import Derived.Test.YtkodnagneblgaaaF4
namespace Go.Proofs.Ytkodnagneblgaaa
open Go.RowKit Go.Maps Go.Sort
attribute [local go_sem] Ext.cell Ext.frozen
attribute [local go_sem ↓] Go.wp_at_zero Go.wp_at_succ
/-- what is known of a place -/
theorem findV_mem {lists : List (List ByteArray)} {ws : List ByteArray} : ∀ (f k : Nat), ∀ p ∈ findV lists ws f k, p.1 < lists.length ∧ k ≤ p.2 ∧ p.2 + lnW lists p.1 ≤ ws.length ∧ lists.getD p.1 [] = (ws.drop p.2).take (lnW lists p.1) ∧ 0 < lnW lists p.1
  | 0, k, p, hp => by cases hp
  | f + 1, k, p, hp => by
    rcases Nat.lt_or_ge k ws.length with hk | hk
    · cases hb : bestV lists (ws.drop k) with
      | none =>
        rw [findV_none hk hb] at hp
        obtain ⟨h1, h2, h3⟩ := findV_mem f (k + 1) p hp
        exact ⟨h1, by omega, h3⟩
      | some i =>
        rw [findV_some hk hb] at hp
        obtain ⟨g1, g2, g3, g4⟩ := bestV_some hb
        rw [List.length_drop] at g3
        rcases List.mem_cons.1 hp with rfl | hp
        · exact ⟨g1, Nat.le_refl _, by show k + lnW lists i ≤ _; omega, g4, g2⟩
        · obtain ⟨h1, h2, h3⟩ := findV_mem f _ p hp
          exact ⟨h1, by omega, h3⟩
    · rw [findV_end hk] at hp
      cases hp
theorem findV_len {lists : List (List ByteArray)} {ws : List ByteArray} : ∀ (f k : Nat), (findV lists ws f k).length ≤ f
  | 0, k => Nat.le_refl _
  | f + 1, k => by
    rcases Nat.lt_or_ge k ws.length with hk | hk
    · cases hb : bestV lists (ws.drop k) with
      | none =>
        rw [findV_none hk hb]
        exact Nat.le_succ_of_le (findV_len f (k + 1))
      | some i =>
        rw [findV_some hk hb]
        exact Nat.succ_le_succ (findV_len f _)
    · rw [findV_end hk]
      exact Nat.zero_le _
/-- places do not overlap -/
theorem findV_pair {lists : List (List ByteArray)} {ws : List ByteArray} : ∀ (f k : Nat), (findV lists ws f k).Pairwise fun p q => p.2 + lnW lists p.1 ≤ q.2
  | 0, k => List.Pairwise.nil
  | f + 1, k => by
    rcases Nat.lt_or_ge k ws.length with hk | hk
    · cases hb : bestV lists (ws.drop k) with
      | none =>
        rw [findV_none hk hb]
        exact findV_pair f (k + 1)
      | some i =>
        rw [findV_some hk hb]
        exact List.Pairwise.cons (fun q hq => (findV_mem f _ q hq).2.1) (findV_pair f _)
    · rw [findV_end hk]
      exact List.Pairwise.nil
/-- the cells of places -/
def prC (ps : List (Nat × Nat)) (i j : Nat) : Value := match j with
  | 0 => .int .i64 ((ps.getD i (0, 0)).1 : Int)
  | _ => .int .i64 ((ps.getD i (0, 0)).2 : Int)
/-- a slice of places -/
def PrAt (w : World) (ad : Option Addr) (n : Nat) (ps : List (Nat × Nat)) : Prop := ps.length = n ∧ ∃ b off, Rw w ad n 2 (prC ps) b off
theorem PrAt.below {w w' : World} {ad : Option Addr} {n : Nat} {ps : List (Nat × Nat)} (h : PrAt w ad n ps) (hb : Below w.heap.size w w') : PrAt w' ad n ps := by
  obtain ⟨h1, b, off, h2⟩ := h
  exact ⟨h1, b, off, h2.below hb⟩
theorem prV_flat (ps : List (Nat × Nat)) : prV ps = flat 2 (prC ps) ps.length := by
  unfold prV flat
  rw (config := { occs := .pos [1] }) [list_range ps (0, 0)]
  rw [List.flatMap_map]
  rfl
theorem PrR.at {w : World} {base : Nat} {ad : Option Addr} {n c : Nat} {ps : List (Nat × Nat)} (h : PrR w base (.slice ad n c) ps) : PrAt w ad n ps := by
  have hn : ps.length = n := by
    rcases h.2 with ⟨e, h0⟩ | ⟨g, cap, cur, e, _⟩
    · injection e with _ e2 _; omega
    · injection e with _ e2 _; exact e2.symm
  unfold PrR at h
  rw [prV_flat, hn] at h
  obtain ⟨b, hr, _⟩ := own_rw h
  exact ⟨hn, b, 0, hr⟩
/-- how often a key is found -/
def cntV (keys : List ByteArray) (ps : List (Nat × Nat)) : ByteArray → Nat := fun t => (ps.filter fun p => decide (keys.getD p.1 .empty = t)).length
theorem cntV_le (keys : List ByteArray) (ps : List (Nat × Nat)) (t : ByteArray) : cntV keys ps t ≤ ps.length := List.length_filter_le _ _
theorem cntV_succ (keys : List ByteArray) (ps : List (Nat × Nat)) (i : Nat) (hi : i < ps.length) : cntV keys (ps.take (i + 1)) = updN (cntV keys (ps.take i)) (keys.getD (ps.getD i (0, 0)).1 .empty) (cntV keys (ps.take i) (keys.getD (ps.getD i (0, 0)).1 .empty) + 1) := by
  have hg : ps.getD i (0, 0) = ps[i] := by rw [List.getD_eq_getElem?_getD, List.getElem?_eq_getElem hi]; rfl
  funext t
  unfold updN cntV
  rw [List.take_add_one, List.getElem?_eq_getElem hi, hg, Option.toList_some, List.filter_append, List.length_append]
  by_cases e : t = keys.getD ps[i].1 .empty
  · rw [if_pos e]
    simp [e]
  · rw [if_neg e]
    have e' : ¬ keys.getD ps[i].1 .empty = t := fun h => e h.symm
    rw [show List.filter (fun p => decide (keys.getD p.1 ByteArray.empty = t)) [ps[i]] = [] from by simp only [List.filter_cons, List.filter_nil, decide_eq_false e', Bool.false_eq_true, if_false]]
    rfl
set_option maxRecDepth 100000 in
set_option maxHeartbeats 8000000 in
theorem counts_any (terms : List ByteArray) (ad : Option Addr) (n c : Nat) (s : ByteArray) (w : World) (ht : Sl w ad n (strs terms)) (hn : n ≤ 40) (hz : ∀ s ∈ terms, s.size ≤ 1000000) (hs : s.size ≤ 1000000) :
    Calls Try.prog 24 #[.slice ad n c, .string s] w fun e w' => ∃ M m, e = .returned (.map (some M)) ∧ w.heap.size ≤ M ∧ CntAt w' M m (cntV (terms.map keyB) (findL (terms.map wordsB) (wordsB s))) ∧ Below w.heap.size w w' := by
  have hl := ht.len
  rw [strs_length] at hl
  have HT := Lib.hid ht
  have HL := Lib.hid hl
  have HZ := Lib.hid hz
  have HF := Lib.hid (fun W (h : Sl W ad n (strs terms)) => find_any terms ad n c s W h hn hz hs)
  have HK := Lib.hid key_any
  have HFM : Hid (∀ p ∈ findL (terms.map wordsB) (wordsB s), p.1 < n) := fun p hp => by
    have := (findV_mem _ _ p hp).1
    rw [List.length_map] at this
    omega
  have hfl : (findL (terms.map wordsB) (wordsB s)).length ≤ 1000001 := Nat.le_trans (findV_len _ _) (Nat.le_trans (wordsB_le s) (by omega))
  have hmm := @run_makeMap Try.prog
  clear ht hz hs hl
  generalize findL (terms.map wordsB) (wordsB s) = ps at *
  go_enter Try.func24, Try.ntmps24
  go_wp2_with fail
  have HC0 := Lib.hid (CntAt.made w)
  have HB0 : Hid (Below w.heap.size w (w.alloc (.map #[] 0))) := Bel.alloc (Bel.refl _) _
  have HZ1 : Hid ((w.alloc (.map #[] 0)).heap.size = w.heap.size + 1) := World.size_alloc _ _
  generalize w.alloc (.map #[] 0) = w1 at *
  refine (HF.out _ (HT.out.below HB0.out)).mono ?_
  rintro e w2 ⟨ap, cp, rfl, hpr, hb⟩
  rw [HZ1.out] at hpr
  have HPA := Lib.hid hpr
  have HC2 := Lib.hid (HC0.out.below hb)
  have HB2 := Lib.hid (HB0.out.trans (hb.mono HB0.out.size))
  clear hpr hb HC0 HB0 HF
  obtain ⟨N, hN⟩ : ∃ N, ps.length = N := ⟨_, rfl⟩
  rw [hN] at HPA hfl ⊢
  have HN := Lib.hid hN
  clear hN
  go_wp2_with fail
  go_loopw [13] (fun u wr => ∃ (i : Nat), u = .int .i64 (i : Int) ∧ i ≤ N ∧ CntAt wr w.heap.size i (cntV (terms.map keyB) (ps.take i)) ∧ Below w.heap.size w wr ∧ PrR wr (w.heap.size + 1) (.slice ap N cp) ps) (fun u _ => N - (intOf u).toNat)
  case atStart => exact ⟨0, rfl, Nat.zero_le _, HC2.out, HB2.out, HPA.out⟩
  case round =>
    obtain ⟨i, rfl, hin, hcn, hbl, hpa⟩ := hrel
    have HCN := Lib.hid hcn
    have HB := Lib.hid hbl
    have HPR := Lib.hid hpa
    have hzr := hbl.size
    clear hcn hbl hpa HC2 HB2 HPA
    by_cases hlt : i < N
    · obtain ⟨_, pb, po, hrp⟩ := PrR.at HPR.out
      have hix := fun W => hrp.ix 42 45 Try.underlying42 cellsPair (by omega) hlt cp W
      have h0 := hrp.cell i 0 hlt (by omega)
      have h1 := hrp.cell i 1 hlt (by omega)
      rw [Nat.add_zero] at h0
      simp only [prC] at h0 h1
      have hmem := HFM.out (ps.getD i (0, 0)) (getD_mem _ _ _ (by rw [HN.out]; exact hlt))
      have HCS := Lib.hid (cntV_succ (terms.map keyB) ps i (by rw [HN.out]; exact hlt))
      have hlz : (i : Int) < (N : Int) := by omega
      clear hrp
      generalize ps.getD i (0, 0) = x at *
      obtain ⟨a, b⟩ := x
      simp only at h0 h1 hmem
      obtain ⟨tb, tq, hst⟩ := HT.out.below HB.out
      have hixt := fun W => hst.ix (c := c) 39 9 Try.underlying39 cellsStr hmem W
      have hct := hst.cell a hmem
      rw [strs_getD _ _ (by rw [HL.out]; exact hmem)] at hct
      have HKE : Hid ((terms.map keyB).getD a .empty = keyB (terms.getD a .empty)) := by
        rw [Hid, List.getD_eq_getElem?_getD, List.getElem?_map, List.getD_eq_getElem?_getD, List.getElem?_eq_getElem (by rw [HL.out]; exact hmem)]
        rfl
      have hsz := HZ.out (terms.getD a .empty) (getD_mem _ _ _ (by rw [HL.out]; exact hmem))
      have HSZ := Lib.hid hsz
      have HKS : Hid ((keyB (terms.getD a .empty)).size ≤ maxLen) := Nat.le_trans (keyB_size _) (by unfold maxLen; omega)
      clear hst hsz
      simp only [HKE.out] at HCS
      have HLE : Hid (∀ t, cntV (terms.map keyB) (ps.take i) t ≤ 1000001) := fun t => Nat.le_trans (cntV_le _ _ _) (by rw [List.length_take]; omega)
      generalize cntV (terms.map keyB) (ps.take i) = cn at *
      generalize terms.getD a .empty = st at *
      go_upto_region 5 with (fail)
      have HB1 : Hid (Below w.heap.size w (wr.alloc (.cells #[.int .i64 (a : Int), .int .i64 (b : Int)] 45))) := HB.out.alloc hzr _
      have HX1 : Hid ((wr.alloc (.cells #[.int .i64 (a : Int), .int .i64 (b : Int)] 45)).heap[wr.heap.size]? = some (.cells #[.int .i64 (a : Int), .int .i64 (b : Int)] 45 (0, 0))) := heap_alloc_new wr _
      have hb1 : Below wr.heap.size wr (wr.alloc (.cells #[.int .i64 (a : Int), .int .i64 (b : Int)] 45)) := Bel.alloc (Bel.refl wr) _
      have HCN1 := Lib.hid (HCN.out.below hb1)
      have HPR1 := Lib.hid (HPR.out.below hb1)
      have hct1 := cell_later hb1 hct
      generalize wr.alloc (.cells #[.int .i64 (a : Int), .int .i64 (b : Int)] 45) = w3 at *
      have x0 := row_cells HX1.out 0
      clear hb1 hct HCN HPR HB HX1 h0 h1 hix
      go_wp2_with fail
      refine (HK.out _ _ HSZ.out).mono ?_
      rintro e w4 ⟨rfl, hb4⟩
      have HB4 := Lib.hid (HB1.out.trans (hb4.mono HB1.out.size))
      have HCN4 := Lib.hid (HCN1.out.below hb4)
      have HPR4 := Lib.hid (HPR1.out.below hb4)
      clear hb4 HB1 HCN1 HPR1 x0 hct1
      have hlk := HCN4.out.look (keyB st) HKS.out
      obtain ⟨w5, hput, hcn5, hg⟩ := HCN4.out.put (keyB st) HKS.out (by unfold maxLen; omega) (cn (keyB st) + 1) (by have := HLE.out (keyB st); omega)
      have hle := HLE.out (keyB st)
      have HCN5 : Hid (CntAt w5 w.heap.size (i + 1) (cntV (terms.map keyB) (ps.take (i + 1)))) := by rw [HCS.out]; exact hcn5
      have HB5 : Hid (Below w.heap.size w w5) := HB4.out.grown hg HB4.out.size (fun j hj => by injection hj with hj; omega)
      have HPR5 : Hid (PrR w5 (w.heap.size + 1) (.slice ap N cp) ps) := World.ownsRow.kept HPR4.out hg (.inr (fun e => by have := (World.ownsRow.lt HPR4.out _ e).1; omega))
      clear hcn5 hg HB4 HPR4 HCN4
      generalize keyB st = ks at *
      push_cast at hput
      generalize cn ks = ck at *
      go_wp2_with fail
      go_roundw
      case rel => exact ⟨i + 1, by go_num, by omega, HCN5.out, HB5.out, HPR5.out⟩
      case measure => simp [intOf]; omega
    · obtain rfl : i = N := by omega
      have hcn := HCN.out
      rw [List.take_of_length_le (by rw [HN.out]; exact Nat.le_refl _)] at hcn
      have HCN2 := Lib.hid hcn
      clear hcn HCN
      go_wp2_with fail
      go_ret
      exact ⟨_, _, rfl, Nat.le_refl _, HCN2.out, HB.out⟩
end Go.Proofs.Ytkodnagneblgaaa
