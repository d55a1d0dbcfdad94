/- Walks: the reference's layouts: Diff, Same, SameDocument. -/
import Derived.Test.YtkkggpahanddnaaDoorH7
import Derived.Test.YtkkggpahanddnaaDoorH6
namespace Go.Proofs.YtkkggpahanddnaaDoor
open Go.RowKit
attribute [local go_sem] Ext.cell Ext.frozen
attribute [local go_sem ↓] Go.wp_at_zero Go.wp_at_succ

set_option maxRecDepth 20000 in
set_option maxHeartbeats 4000000 in
theorem rdiff_no (h t : ByteArray) (ad : Option Addr) (n c : Nat) (h' t' : ByteArray) (ad' : Option Addr) (n' c' : Nat) (w : World) (hne : n ≠ n') :
    Calls Tryd.prog 14 #[.agg #[.string h, .slice ad n c, .string t], .agg #[.string h', .slice ad' n' c', .string t']] w fun e w' => e = .returned (.tuple #[.slice none 0 0, .int .i64 1]) ∧ Below w.heap.size w w' := by
  have h1 : ((n : Int) != (n' : Int)) = true := by simp; omega
  have h2 : ¬ ((n : Int) = (n' : Int)) := by omega
  go_enter Tryd.func14, Tryd.ntmps14
  go_wp2_with fail
  go_ret2
  exact ⟨rfl, (((Below.refl _ _).alloc (Nat.le_refl _) _).alloc (by simp) _)⟩
/-- a layout is answered -/
def DiffPost (E : TypeId) (w : World) (ps : List (Int × ByteArray)) (e : Ending) (w' : World) : Prop :=
  ∃ ad c, e = .returned (.tuple #[.slice ad ps.length c, .int .i64 0]) ∧ w'.ownsRow w.heap.size E 2 (.slice ad ps.length c) ps.length (pcCells ps) ∧ Below w.heap.size w w'
set_option maxRecDepth 20000 in
set_option maxHeartbeats 8000000 in
theorem rdiff_yes (h t : ByteArray) (ad : Option Addr) (n c : Nat) (xs : List ByteArray) (h' t' : ByteArray) (ad' : Option Addr) (c' : Nat) (xs' : List ByteArray) (w : World) (hx : Sl w ad n (strs xs)) (hc : ad = none → c = 0) (hx' : Sl w ad' n (strs xs')) (hc' : ad' = none → c' = 0) (hn : n ≤ 100000) :
    Calls Tryd.prog 14 #[.agg #[.string h, .slice ad n c, .string t], .agg #[.string h', .slice ad' n c', .string t']] w (DiffPost 58 w (diffV (allV h xs t) (allV h' xs' t'))) := by
  have HA1 : Hid (∀ w', Below w.heap.size w w' → Calls Tryd.prog 33 #[.agg #[.string h, .slice ad n c, .string t]] w' (SlPost w' (allV h xs t))) := fun w' g => all_any h t ad n c xs w' (hx.below g) hc (by omega)
  have HA2 : Hid (∀ w', Below w.heap.size w w' → Calls Tryd.prog 33 #[.agg #[.string h', .slice ad' n c', .string t']] w' (SlPost w' (allV h' xs' t'))) := fun w' g => all_any h' t' ad' n c' xs' w' (hx'.below g) hc' (by omega)
  have hl1 : (allV h xs t).length = n + 2 := by rw [allV_len]; have := hx.len; rw [strs_length] at this; omega
  have hl2 : (allV h' xs' t').length = n + 2 := by rw [allV_len]; have := hx'.len; rw [strs_length] at this; omega
  clear hx hc hx' hc'
  generalize allV h xs t = l at *
  generalize allV h' xs' t' = m at *
  have HL2 : Hid (m.length = l.length) := by unfold Hid; omega
  have hln : l.length ≤ 1000000 := by omega
  obtain ⟨i0, hi, hz0, hz1, hz2⟩ := info_parts infoRc
  have HI := Lib.hid hi
  have HZ0 := Lib.hid hz0
  have HZ1 := Lib.hid hz1
  have HZ2 := Lib.hid hz2
  clear hl1 hl2 hi hz0 hz1 hz2
  go_enter Tryd.func14, Tryd.ntmps14
  go_wp2_with fail
  refine wp_at_worldH ?_
  intro W hW
  have hB : Hid (Below w.heap.size w W) := by rw [hW]; exact ((Below.refl _ _).alloc (Nat.le_refl _) _).alloc (by simp) _
  have k0 : W.cell? ⟨w.heap.size, 0, none⟩ = some (.string h) := by rw [hW]; simp [go_sem]
  have k1 : W.cell? ⟨w.heap.size, 1, none⟩ = some (.slice ad n c) := by rw [hW]; simp [go_sem]
  have k2 : W.cell? ⟨w.heap.size, 2, none⟩ = some (.string t) := by rw [hW]; simp [go_sem]
  have k3 : W.cell? ⟨w.heap.size + 1, 0, none⟩ = some (.string h') := by rw [hW]; simp [go_sem]
  have k4 : W.cell? ⟨w.heap.size + 1, 1, none⟩ = some (.slice ad' n c') := by rw [hW]; simp [go_sem]
  have k5 : W.cell? ⟨w.heap.size + 1, 2, none⟩ = some (.string t') := by rw [hW]; simp [go_sem]
  have hz : w.heap.size + 1 < W.heap.size := by rw [hW]; simp
  clear hW
  go_region_held3 (fun w' => w'.cell? ⟨w.heap.size, 0, none⟩ = some (.string h) ∧ w'.cell? ⟨w.heap.size, 1, none⟩ = some (.slice ad n c) ∧ w'.cell? ⟨w.heap.size, 2, none⟩ = some (.string t) ∧ w'.cell? ⟨w.heap.size + 1, 0, none⟩ = some (.string h') ∧ w'.cell? ⟨w.heap.size + 1, 1, none⟩ = some (.slice ad' n c') ∧ w'.cell? ⟨w.heap.size + 1, 2, none⟩ = some (.string t')) (go_keep)
    (first
      | (go_at_call 33; (with_reducible refine (HA1.out _ ?_).mono ?_); (exact (show Bel w _ from Bel.drew hB.out)); rintro e w1 ⟨ad1, c1, rfl, hown1, hb1⟩; have hb1' : Below W.heap.size W w1 := (below_drew1 W).trans hb1; have q0 := (hb1'.cell (p := ⟨w.heap.size, 0, none⟩) (by show w.heap.size < _; omega)).trans k0; have q1 := (hb1'.cell (p := ⟨w.heap.size, 1, none⟩) (by show w.heap.size < _; omega)).trans k1; have q2 := (hb1'.cell (p := ⟨w.heap.size, 2, none⟩) (by show w.heap.size < _; omega)).trans k2; have q3 := (hb1'.cell (p := ⟨w.heap.size + 1, 0, none⟩) hz).trans k3; have q4 := (hb1'.cell (p := ⟨w.heap.size + 1, 1, none⟩) hz).trans k4; have q5 := (hb1'.cell (p := ⟨w.heap.size + 1, 2, none⟩) hz).trans k5; have HB1 : Hid (Below w.heap.size w w1) := hB.out.trans (hb1'.mono (by omega)); have HO1 := Lib.hid hown1; have hz1 := hb1'.size; clear hown1 hb1 hb1')
      | (go_at_call 33; (with_reducible refine (HA2.out _ HB1.out).mono ?_); rintro e w2 ⟨ad2, c2, rfl, hown2, hb2⟩; have q0 := (hb2.cell (p := ⟨w.heap.size, 0, none⟩) (by show w.heap.size < _; omega)).trans q0; have q1 := (hb2.cell (p := ⟨w.heap.size, 1, none⟩) (by show w.heap.size < _; omega)).trans q1; have q2 := (hb2.cell (p := ⟨w.heap.size, 2, none⟩) (by show w.heap.size < _; omega)).trans q2; have q3 := (hb2.cell (p := ⟨w.heap.size + 1, 0, none⟩) (by show w.heap.size + 1 < _; omega)).trans q3; have q4 := (hb2.cell (p := ⟨w.heap.size + 1, 1, none⟩) (by show w.heap.size + 1 < _; omega)).trans q4; have q5 := (hb2.cell (p := ⟨w.heap.size + 1, 2, none⟩) (by show w.heap.size + 1 < _; omega)).trans q5; have HB2 : Hid (Below w.heap.size w w2) := HB1.out.trans (hb2.mono (by omega)); have HS1 := Lib.hid (Own.sl (Own.below HO1.out hb2)); have HO2 := Lib.hid hown2; have hz2 := hb2.size; clear hown2 hb2))
  clear q0 q1 q2 q3 q4 q5 k0 k1 k2 k3 k4 k5 HA1 HA2
  go_wp2_with fail
  have HS2 := Lib.hid (Own.sl HO2.out)
  clear HO1 HO2
  go_loopw [6, 9] (fun v i wr => ∃ (k : Nat) (ad3 : Option Addr) (c3 : Nat), i = .int .i64 (k : Int) ∧ k ≤ l.length ∧ v = .slice ad3 (diffN l m k).length c3 ∧ wr.ownsRow w2.heap.size 58 2 (.slice ad3 (diffN l m k).length c3) (diffN l m k).length (pcCells (diffN l m k)) ∧ Below w2.heap.size w2 wr) (fun _ i _ => l.length - (intOf i).toNat)
  case atStart => exact ⟨0, none, 0, rfl, Nat.zero_le _, rfl, World.ownsRow_nil _ _ _ _, Below.refl _ _⟩
  case round =>
    obtain ⟨k, ad3, c3, rfl, hkl, rfl, hown, hbl⟩ := hrel
    have HOWN := Lib.hid hown
    have HBL := Lib.hid hbl
    have hzr := hbl.size
    clear hown hbl
    have hdl : (diffN l m k).length ≤ 1000000000 := by have := diffN_len l m k; omega
    by_cases hlt : k < l.length
    · obtain ⟨b1, o1, g1⟩ := HS1.out.below HBL.out
      obtain ⟨b2, o2, g2⟩ := HS2.out.below HBL.out
      have hlt2 : k < m.length := by rw [HL2.out]; exact hlt
      have hix1 := fun W => g1.ix (c := c1) 22 9 Tryd.underlying22 cellsS hlt (W := W)
      have hix2 := fun W => g2.ix (c := c2) 22 9 Tryd.underlying22 cellsS hlt2 (W := W)
      have h1 := g1.cell k hlt
      have h2 := g2.cell k hlt2
      rw [strs_getD _ _ hlt] at h1
      rw [strs_getD _ _ hlt2] at h2
      have HSA := Lib.hid (diffN_same (a := l) (b := m) (k := k))
      have HDI := Lib.hid (diffN_other (a := l) (b := m) (k := k))
      clear g1 g2 hlt2
      generalize l.getD k .empty = x at *
      generalize m.getD k .empty = y at *
      by_cases he : x = y
      · subst he
        have HN := Lib.hid (HSA.out rfl)
        clear HSA HDI
        go_wp2_with fail
        go_quiet (fail)
        go_wp2_with fail
        go_roundw
        case rel => exact ⟨k + 1, ad3, c3, by go_num, by omega, by rw [HN.out], by rw [HN.out]; exact own_below2 HOWN.out (below_drewN _ _), HBL.out.trans ((below_drewN _ _).mono hzr)⟩
        case measure => simp [intOf]; omega
      · have HN := Lib.hid (HDI.out he)
        have hne : (x.toList == y.toList) = false := by
          rw [ByteArray.toList_eq, ByteArray.toList_eq, beq_eq_false_iff_ne]
          exact fun e => he (ByteArray.ext (Array.toList_inj.1 e))
        have hne2 : (x.toList != y.toList) = true := by unfold bne; rw [hne]; rfl
        clear HSA HDI he
        go_wp2_with fail
        go_quiet (fail)
        go_wp2_with (at_builtin; refine wpList_app2 33 58 Tryd.underlying33 i0 _ HI.out HZ0.out HZ1.out HZ2.out rfl rfl _ _ rfl w2.heap.size ad3 _ c3 _ rfl (own_below2 HOWN.out (below_drewN _ _)) _ _ _ rfl rfl rfl hdl hzr ?_; intro ad6 c6 w3 hown3 hb3 hg3 hz3; have HOWN3 := Lib.hid hown3; have HB3 := Lib.hid hb3; clear hown3 hb3 hg3 hz3)
        go_roundw
        case rel => exact ⟨k + 1, ad6, c6, by go_num, by omega, by rw [HN.out, List.length_append]; rfl, by rw [HN.out, pcCells_snoc, List.length_append]; exact HOWN3.out, (HBL.out.trans ((below_drewN _ _).mono hzr)).trans HB3.out⟩
        case measure => simp [intOf]; omega
    · have hke : k = l.length := by omega
      subst hke
      go_wp2_with fail
      go_ret2
      exact ⟨ad3, c3, rfl, own_rebase HOWN.out HB2.out.size, HB2.out.trans (HBL.out.mono HB2.out.size)⟩
/-- two layouts are the same -/
def sameP (ps qs : List (Int × ByteArray)) : Bool := decide (ps = qs)
theorem getD_extP {a b : List (Int × ByteArray)} (hl : a.length = b.length) (h : ∀ i, i < a.length → a.getD i (0, .empty) = b.getD i (0, .empty)) : a = b := by
  apply List.ext_getElem hl
  intro i h1 h2
  have := h i h1
  simpa [List.getD, List.getElem?_eq_getElem h1, List.getElem?_eq_getElem h2] using this
set_option maxRecDepth 20000 in
set_option maxHeartbeats 4000000 in
theorem same_any (ad : Option Addr) (n c : Nat) (ps : List (Int × ByteArray)) (ad' : Option Addr) (n' c' : Nat) (qs : List (Int × ByteArray)) (w : World) (hp : Pc w ad n ps) (hq : Pc w ad' n' qs) :
    Calls Tryd.prog 15 #[.slice ad n c, .slice ad' n' c'] w fun e w' => e = .returned (.bool (sameP ps qs)) ∧ Below w.heap.size w w' := by
  have hnm := hp.max
  have hnm' := hq.max
  obtain ⟨b, off, hp⟩ := hp
  obtain ⟨b', off', hq⟩ := hq
  have HL := Lib.hid hp.len
  have HL' := Lib.hid hq.len
  by_cases hn : n = n'
  · subst hn
    have HP := Lib.hid hp
    have HQ := Lib.hid hq
    clear hp hq
    go_enter Tryd.func15, Tryd.ntmps15
    go_wp2_with fail
    go_loopw [5] (fun i wr => ∃ (k : Nat), i = .int .i64 (k : Int) ∧ k ≤ n ∧ (∀ i, i < k → ps.getD i (0, .empty) = qs.getD i (0, .empty)) ∧ Below w.heap.size w wr) (fun i _ => n - (intOf i).toNat)
    case atStart => exact ⟨0, rfl, Nat.zero_le _, fun i hi => absurd hi (Nat.not_lt_zero _), Below.refl _ _⟩
    case round =>
      obtain ⟨k, rfl, hkn, hal, hbl⟩ := hrel
      have HAL := Lib.hid hal
      have HBL := Lib.hid hbl
      have hzr := hbl.size
      clear hal hbl
      by_cases hlt : k < n
      · have g1 := HP.out.below HBL.out
        have g2 := HQ.out.below HBL.out
        have hix1 := fun W => g1.ix 33 58 Tryd.underlying33 cellsRc hlt c W
        have hix2 := fun W => g2.ix 33 58 Tryd.underlying33 cellsRc hlt c' W
        have h10 := g1.c0 k hlt
        have h11 := g1.c1 k hlt
        have h20 := g2.c0 k hlt
        have h21 := g2.c1 k hlt
        clear g1 g2
        have HNX : Hid (ps.getD k (0, .empty) = qs.getD k (0, .empty) → ∀ i, i < k + 1 → ps.getD i (0, .empty) = qs.getD i (0, .empty)) := fun h i hi => by
          rcases Nat.lt_or_ge i k with h' | h'
          · exact HAL.out i h'
          · rw [show i = k by omega]; exact h
        have HNO : Hid (ps.getD k (0, .empty) ≠ qs.getD k (0, .empty) → sameP ps qs = false) := fun h => decide_eq_false (fun e => h (by rw [e]))
        generalize ps.getD k (0, .empty) = x at *
        generalize qs.getD k (0, .empty) = y at *
        obtain ⟨x0, x1⟩ := x
        obtain ⟨y0, y1⟩ := y
        simp only at h10 h11 h20 h21
        by_cases he : (x0, x1) = (y0, y1)
        · have HN := Lib.hid (HNX.out he)
          obtain ⟨rfl, rfl⟩ := Prod.mk.inj he
          clear HNX HNO he
          go_wp2_with fail
          go_quiet (fail)
          go_wp2_with fail
          go_roundw
          case rel => exact ⟨k + 1, by go_num, by omega, HN.out, HBL.out.trans ((below_drewN _ _).mono hzr)⟩
          case measure => simp [intOf]; omega
        · have HN := Lib.hid (HNO.out he)
          clear HNX HNO
          by_cases h0 : x0 = y0
          · subst h0
            have hne : (x1.toList == y1.toList) = false := by
              rw [ByteArray.toList_eq, ByteArray.toList_eq, beq_eq_false_iff_ne]
              exact fun e => he (by rw [ByteArray.ext (Array.toList_inj.1 e)])
            have hne2 : (x1.toList != y1.toList) = true := by unfold bne; rw [hne]; rfl
            have hne3 : ¬ x1 = y1 := fun e => he (by rw [e])
            clear he
            go_wp2_with fail
            go_quiet (fail)
            go_wp2_with fail
            go_ret
            exact ⟨by rw [HN.out]; rfl, HBL.out.trans ((below_drewN _ _).mono hzr)⟩
          · have h01 : (x0 == y0) = false := by simpa using h0
            have h02 : (x0 != y0) = true := by simpa using h0
            clear he
            go_wp2_with fail
            go_quiet (fail)
            go_wp2_with fail
            go_ret
            exact ⟨by rw [HN.out]; rfl, HBL.out.trans ((below_drewN _ _).mono hzr)⟩
      · obtain rfl : k = n := by omega
        have HS : Hid (sameP ps qs = true) := decide_eq_true (getD_extP (by rw [HL.out, HL'.out]) (fun i hi => HAL.out i (by rw [HL.out] at hi; exact hi)))
        go_wp2_with fail
        go_ret
        exact ⟨by rw [HS.out]; rfl, HBL.out⟩
  · have h1 : ((n : Int) != (n' : Int)) = true := by simp; omega
    have h2 : ¬ ((n : Int) = (n' : Int)) := by omega
    have HS : Hid (sameP ps qs = false) := decide_eq_false (fun e => hn (by rw [← HL.out, ← HL'.out, e]))
    clear hp hq
    go_enter Tryd.func15, Tryd.ntmps15
    go_wp2_with fail
    go_ret
    exact ⟨by rw [HS.out]; rfl, Below.refl _ _⟩
end Go.Proofs.YtkkggpahanddnaaDoor
