/- Walks: the reference's SameDocument, With, Valid, Apply. -/
import Derived.Test.YtkkggpahanddnaaDoorH8
namespace Go.Proofs.YtkkggpahanddnaaDoor
open Go.RowKit
attribute [local go_sem] Ext.cell Ext.frozen
attribute [local go_sem ↓] Go.wp_at_zero Go.wp_at_succ

/-- a document's box behind three stores -/
theorem doc_set {w : World} {B : Nat} {a b c : Value} {T : TypeId} (hk : w.heap[B]? = some (.cells #[a, b, c] T (0, 0))) (x y z : Value) :
    (((w.setCell ⟨B, 0, none⟩ x).setCell ⟨B, 1, none⟩ y).setCell ⟨B, 2, none⟩ z).cell? ⟨B, 0, none⟩ = some x ∧ (((w.setCell ⟨B, 0, none⟩ x).setCell ⟨B, 1, none⟩ y).setCell ⟨B, 2, none⟩ z).cell? ⟨B, 1, none⟩ = some y ∧
    (((w.setCell ⟨B, 0, none⟩ x).setCell ⟨B, 1, none⟩ y).setCell ⟨B, 2, none⟩ z).cell? ⟨B, 2, none⟩ = some z := by
  have kr := row_set (row_set (row_set hk 0 x) 1 y) 2 z
  exact ⟨(row_cells kr 0).trans rfl, (row_cells kr 1).trans rfl, (row_cells kr 2).trans rfl⟩
theorem below_set3 {base : Nat} {w W : World} {B : Nat} (h : Below base w W) (hB : base ≤ B) (x y z : Value) : Below base w (((W.setCell ⟨B, 0, none⟩ x).setCell ⟨B, 1, none⟩ y).setCell ⟨B, 2, none⟩ z) :=
  ((h.setCell (p := ⟨B, 0, none⟩) hB x).setCell (p := ⟨B, 1, none⟩) hB y).setCell (p := ⟨B, 2, none⟩) hB z
theorem own_set3 {w : World} {base : Nat} {E T : TypeId} {size : Nat} {v : Value} {n : Nat} {xs : List Value} {B : Nat} {cs : Array Value} (hown : w.ownsRow base E size v n xs) (hk : w.heap[B]? = some (.cells cs T (0, 0))) (hTe : T ≠ E) (x y z : Value) :
    (((w.setCell ⟨B, 0, none⟩ x).setCell ⟨B, 1, none⟩ y).setCell ⟨B, 2, none⟩ z).ownsRow base E size v n xs :=
  own_set (own_set (own_set hown hk hTe 0 x) (row_set hk 0 x) hTe 1 y) (row_set (row_set hk 0 x) 1 y) hTe 2 z
/-- a store into a row of the call's own -/
theorem own_store {w : World} {base : Nat} {E : TypeId} {g n c : Nat} {xs : List Value} (h : w.ownsRow base E 1 (.slice (some ⟨g, 0, none⟩) n c) n xs) (i : Nat) (hi : i < n) (v : Value) :
    (w.setCell ⟨g, i, none⟩ v).ownsRow base E 1 (.slice (some ⟨g, 0, none⟩) n c) n (xs.set i v) := by
  refine ⟨by rw [List.length_set]; exact h.1, ?_⟩
  rcases h.2 with ⟨h1, h2⟩ | ⟨g', cap, cur, h1, h2, h3, h4, h5, h6, h7⟩
  · omega
  · injection h1 with e1 e2 e3
    injection e1 with e1
    injection e1 with e1
    subst e1
    subst e3
    refine .inr ⟨g, c, cur.setIfInBounds i v, rfl, h2, row_set h3 i v, h4, h5, by simpa using h6, ?_⟩
    rw [← h7, Nat.mul_one, Array.toList_setIfInBounds, List.take_set]
/-- .. its cells -/
theorem own_cell {w : World} {base : Nat} {E : TypeId} {g n c : Nat} {xs : List Value} (h : w.ownsRow base E 1 (.slice (some ⟨g, 0, none⟩) n c) n xs) (i : Nat) (hi : i < n) : w.cell? ⟨g, i, none⟩ = some (xs.getD i undef) ∧ w.frozen? ⟨g, i, none⟩ = false := by
  obtain ⟨g', e, _, _, _, _, hs, cur, hc, _⟩ := own_parts h (by omega)
  injection e with e
  injection e with e
  subst e
  exact ⟨by have := hs.cell i hi; rwa [Nat.zero_add] at this, row_frozen hc i⟩
theorem own_slat {w : World} {base : Nat} {E : TypeId} {g n c : Nat} {xs : List Value} (h : w.ownsRow base E 1 (.slice (some ⟨g, 0, none⟩) n c) n xs) (hn : 0 < n) : SlAt w (some ⟨g, 0, none⟩) n xs g 0 := by
  obtain ⟨g', e, _, _, _, _, hs, _⟩ := own_parts h hn
  injection e with e
  injection e with e
  subst e
  exact hs
theorem strs_set (l : List ByteArray) (i : Nat) (s : ByteArray) : (strs l).set i (.string s) = strs (l.set i s) := by simp [strs]
/-- two documents are the same -/
def sameD (l m : List ByteArray) : Bool := decide (l = m)
set_option maxRecDepth 20000 in
set_option maxHeartbeats 4000000 in
theorem samedoc_any (h t : ByteArray) (ad : Option Addr) (n c : Nat) (xs : List ByteArray) (h' t' : ByteArray) (ad' : Option Addr) (n' c' : Nat) (xs' : List ByteArray) (w : World) (hx : Sl w ad n (strs xs)) (hc : ad = none → c = 0) (hx' : Sl w ad' n' (strs xs')) (hc' : ad' = none → c' = 0) (hn : n ≤ 100000) :
    Calls Tryd.prog 23 #[.agg #[.string h, .slice ad n c, .string t], .agg #[.string h', .slice ad' n' c', .string t']] w fun e w' => e = .returned (.bool (sameD (allV h xs t) (allV h' xs' t'))) ∧ Below w.heap.size w w' := by
  have l1 : xs.length = n := by have := hx.len; rwa [strs_length] at this
  have l2 : xs'.length = n' := by have := hx'.len; rwa [strs_length] at this
  by_cases hne : n = n'
  · subst hne
    have HD : Hid (∀ w', Below w.heap.size w w' → Calls Tryd.prog 14 #[.agg #[.string h, .slice ad n c, .string t], .agg #[.string h', .slice ad' n c', .string t']] w' (DiffPost 58 w' (diffV (allV h xs t) (allV h' xs' t')))) :=
      fun w' g => rdiff_yes h t ad n c xs h' t' ad' c' xs' w' (hx.below g) hc (hx'.below g) hc' hn
    have HDV := Lib.hid (diffV_nil (a := allV h xs t) (b := allV h' xs' t') (by rw [allV_len, allV_len]; omega))
    clear hx hc hx' hc' l1 l2
    generalize allV h xs t = l at *
    generalize allV h' xs' t' = m at *
    go_enter Tryd.func23, Tryd.ntmps23
    go_wp2_with fail
    refine (HD.out _ (((Below.refl _ _).alloc (Nat.le_refl _) _).alloc (by simp) _)).mono ?_
    rintro e w1 ⟨ad1, c1, rfl, hown, hb⟩
    have HB : Hid (Below w.heap.size w w1) := (((Below.refl _ _).alloc (Nat.le_refl _) _).alloc (by simp) _).trans (hb.mono (by simp; omega))
    by_cases he : l = m
    · have hz : (diffV l m).length = 0 := by rw [HDV.out.2 he]; rfl
      have HS : Hid (sameD l m = true) := decide_eq_true he
      rw [hz]
      clear hown hb hz he
      go_wp2_with fail
      go_ret
      exact ⟨by rw [HS.out]; rfl, HB.out⟩
    · have hz : 0 < (diffV l m).length := List.length_pos_iff.2 (fun e => he (HDV.out.1 e))
      have hz1 : (((diffV l m).length : Int) == 0) = false := by simp; intro e; rw [e] at hz; exact absurd hz (Nat.lt_irrefl _)
      have hz2 : decide (((diffV l m).length : Int) = 0) = false := by simpa using hz1
      have HS : Hid (sameD l m = false) := decide_eq_false he
      clear hown hb he
      generalize (diffV l m).length = q at *
      go_wp2_with fail
      go_ret
      exact ⟨by rw [HS.out]; first | rfl | (simp; omega), HB.out⟩
  · have HD := Lib.hid (fun w' => rdiff_no h t ad n c h' t' ad' n' c' w' hne)
    have HS : Hid (sameD (allV h xs t) (allV h' xs' t') = false) := decide_eq_false (fun e => hne (by have := congrArg List.length e; rw [allV_len, allV_len] at this; omega))
    clear hx hc hx' hc' l1 l2
    go_enter Tryd.func23, Tryd.ntmps23
    go_wp2_with fail
    refine (HD.out _).mono ?_
    rintro e w1 ⟨rfl, hb⟩
    have HB : Hid (Below w.heap.size w w1) := (((Below.refl _ _).alloc (Nat.le_refl _) _).alloc (by simp) _).trans (hb.mono (by simp; omega))
    clear hb
    go_wp2_with fail
    go_ret
    exact ⟨by rw [HS.out]; rfl, HB.out⟩
/-- a document and an error are answered -/
def DocErr (w : World) (h : ByteArray) (xs : List ByteArray) (t : ByteArray) (e : Ending) (w' : World) : Prop :=
  ∃ ad c, e = .returned (.tuple #[.agg #[.string h, .slice ad xs.length c, .string t], .int .i64 0]) ∧ w'.ownsRow w.heap.size 9 1 (.slice ad xs.length c) xs.length (strs xs) ∧ (ad = none → c = 0) ∧ Below w.heap.size w w'
set_option maxRecDepth 20000 in
set_option maxHeartbeats 4000000 in
theorem rwith_no (h t : ByteArray) (ad : Option Addr) (n c : Nat) (xs : List ByteArray) (i : Int) (s : ByteArray) (w : World) (hx : Sl w ad n (strs xs)) (hc : ad = none → c = 0) (hn : n ≤ 100000) (hi : i < 0 ∨ (n : Int) + 2 ≤ i) :
    Calls Tryd.prog 20 #[.agg #[.string h, .slice ad n c, .string t], .int .i64 i, .string s] w fun e w' => e = .returned (.tuple #[.agg #[.string ⟨#[]⟩, .slice none 0 0, .string ⟨#[]⟩], .int .i64 2]) ∧ Below w.heap.size w w' := by
  have HA : Hid (∀ w', Below w.heap.size w w' → Calls Tryd.prog 33 #[.agg #[.string h, .slice ad n c, .string t]] w' (SlPost w' (allV h xs t))) := fun w' g => all_any h t ad n c xs w' (hx.below g) hc (by omega)
  have hll : (allV h xs t).length = n + 2 := by rw [allV_len]; have := hx.len; rw [strs_length] at this; omega
  clear hx hc
  generalize allV h xs t = l at *
  have hl1 : (l.length : Int) = (n : Int) + 2 := by omega
  by_cases h0 : i < 0
  · clear hl1
    clear hi
    go_enter Tryd.func20, Tryd.ntmps20
    go_wp2_with fail
    refine (HA.out _ (((Below.refl _ _).alloc (Nat.le_refl _) _).alloc (by simp) _)).mono ?_
    rintro e w1 ⟨ad1, c1, rfl, hown, hb⟩
    have ks := (hb.block (w.heap.size + 1) (by simp)).trans (row_new2 _ _ _ _)
    have g0 := row_cells ks 0
    have g1 := row_cells ks 1
    have g2 := row_cells ks 2
    have f0 := row_frozen ks 0
    have f1 := row_frozen ks 1
    have f2 := row_frozen ks 2
    have HB : Hid (Below w.heap.size w w1) := (((Below.refl _ _).alloc (Nat.le_refl _) _).alloc (by simp) _).trans (hb.mono (by simp; omega))
    have HK := Lib.hid ks
    clear hown hb hll ks
    go_wp2_with fail
    obtain ⟨q0, q1, q2⟩ := doc_set HK.out (.string ⟨#[]⟩) (.slice none 0 0) (.string ⟨#[]⟩)
    exact bodyPost_ret (v := .tuple #[.agg #[.string ⟨#[]⟩, .slice none 0 0, .string ⟨#[]⟩], .int .i64 2]) (by simp [results, Tryd.f20, go_sem, q0, q1, q2]) rfl ⟨rfl, below_set3 HB.out (by omega) _ _ _⟩
  · have h2 : (l.length : Int) ≤ i := by omega
    clear hl1
    clear hi
    go_enter Tryd.func20, Tryd.ntmps20
    go_wp2_with fail
    refine (HA.out _ (((Below.refl _ _).alloc (Nat.le_refl _) _).alloc (by simp) _)).mono ?_
    rintro e w1 ⟨ad1, c1, rfl, hown, hb⟩
    have ks := (hb.block (w.heap.size + 1) (by simp)).trans (row_new2 _ _ _ _)
    have g0 := row_cells ks 0
    have g1 := row_cells ks 1
    have g2 := row_cells ks 2
    have f0 := row_frozen ks 0
    have f1 := row_frozen ks 1
    have f2 := row_frozen ks 2
    have HB : Hid (Below w.heap.size w w1) := (((Below.refl _ _).alloc (Nat.le_refl _) _).alloc (by simp) _).trans (hb.mono (by simp; omega))
    have HK := Lib.hid ks
    clear hown hb hll ks
    go_wp2_with fail
    obtain ⟨q0, q1, q2⟩ := doc_set HK.out (.string ⟨#[]⟩) (.slice none 0 0) (.string ⟨#[]⟩)
    exact bodyPost_ret (v := .tuple #[.agg #[.string ⟨#[]⟩, .slice none 0 0, .string ⟨#[]⟩], .int .i64 2]) (by simp [results, Tryd.f20, go_sem, q0, q1, q2]) rfl ⟨rfl, below_set3 HB.out (by omega) _ _ _⟩
set_option maxRecDepth 20000 in
set_option maxHeartbeats 4000000 in
theorem rwith_yes (h t : ByteArray) (ad : Option Addr) (n c : Nat) (xs : List ByteArray) (i : Nat) (s : ByteArray) (h' : ByteArray) (xs' : List ByteArray) (t' : ByteArray) (w : World) (hx : Sl w ad n (strs xs)) (hc : ad = none → c = 0) (hn : n ≤ 100000) (hi : i < n + 2) (he : (allV h xs t).set i s = allV h' xs' t') :
    Calls Tryd.prog 20 #[.agg #[.string h, .slice ad n c, .string t], .int .i64 (i : Int), .string s] w (DocErr w h' xs' t') := by
  have HA : Hid (∀ w', Below w.heap.size w w' → Calls Tryd.prog 33 #[.agg #[.string h, .slice ad n c, .string t]] w' (SlPost w' (allV h xs t))) := fun w' g => all_any h t ad n c xs w' (hx.below g) hc (by omega)
  have hll : (allV h xs t).length = n + 2 := by rw [allV_len]; have := hx.len; rw [strs_length] at this; omega
  clear hx hc
  have hl1 : (i : Int) < ((allV h xs t).length : Int) := by omega
  have hi1 : i < (allV h xs t).length := by omega
  have hxl : xs'.length + 2 = (allV h xs t).length := by have := congrArg List.length he; rw [List.length_set, allV_len h' xs' t'] at this; omega
  have HE := Lib.hid he
  have HXL := Lib.hid hxl
  clear he hxl
  generalize allV h xs t = l at *
  have hls : l.length ≤ 1000000 := by omega
  go_enter Tryd.func20, Tryd.ntmps20
  go_wp2_with fail
  refine (HA.out _ (((Below.refl _ _).alloc (Nat.le_refl _) _).alloc (by simp) _)).mono ?_
  rintro e w1 ⟨ad1, c1, rfl, hown, hb⟩
  obtain ⟨g, rfl, hbg, hg, hcl, hcm, hs, _⟩ := own_parts hown (by omega)
  have hbg' : w.heap.size + 1 < g := by simp at hbg; omega
  obtain ⟨h0, hf0⟩ := own_cell hown i hi1
  have hix := fun W => hs.ix (c := c1) 22 9 Tryd.underlying22 cellsS hi1 (W := W)
  simp only [Nat.zero_add] at hix
  have ks := (hb.block (w.heap.size + 1) (by simp)).trans (row_new2 _ _ _ _)
  have HK : Hid ((w1.setCell ⟨g, i, none⟩ (.string s)).heap[w.heap.size + 1]? = some (.cells #[.string ⟨#[]⟩, .slice none 0 0, .string ⟨#[]⟩] 24 (0, 0))) := (Below.heap_setCell w1 ⟨g, i, none⟩ _ (w.heap.size + 1) (by show w.heap.size + 1 ≠ g; omega)).trans ks
  have HB : Hid (Below w.heap.size w (w1.setCell ⟨g, i, none⟩ (.string s))) := ((((Below.refl _ _).alloc (Nat.le_refl _) _).alloc (by simp) _).trans (hb.mono (by simp; omega))).setCell (p := ⟨g, i, none⟩) (by show w.heap.size ≤ g; omega) _
  have HOW : Hid ((w1.setCell ⟨g, i, none⟩ (.string s)).ownsRow w.heap.size 9 1 (.slice (some ⟨g, 0, none⟩) l.length c1) l.length (strs (allV h' xs' t'))) := by
    have := own_store hown i hi1 (.string s)
    rw [strs_set, HE.out] at this
    exact Own.rebase this (by simp; omega)
  clear hown hb hs ks hll
  obtain ⟨k, hk⟩ : ∃ k, l.length = k + 1 := ⟨l.length - 1, by omega⟩
  rw [hk] at HOW hix hl1 hi1 HXL hcl hls
  rw [hk]
  go_wp2_with fail
  refine (of_any h' t' g k c1 xs' _ (own_slat HOW.out (by omega)) (by have := HXL.out; omega) hcl hcm (by omega)).mono ?_
  rintro e w3 ⟨ad3, c3, rfl, hown3, hnn3, hb3⟩
  have hz1 : w.heap.size + 1 < (w1.setCell ⟨g, i, none⟩ (.string s)).heap.size := by rw [World.size_setCell]; omega
  have ks3 := (hb3.block (w.heap.size + 1) hz1).trans HK.out
  have g0 := row_cells ks3 0
  have g1 := row_cells ks3 1
  have g2 := row_cells ks3 2
  have f0 := row_frozen ks3 0
  have f1 := row_frozen ks3 1
  have f2 := row_frozen ks3 2
  have HB3 : Hid (Below w.heap.size w w3) := HB.out.trans (hb3.mono (by omega))
  have HK3 := Lib.hid ks3
  have HO3 := Lib.hid hown3
  clear hown3 hb3 ks3 hix h0 hf0
  go_wp2_with fail
  obtain ⟨q0, q1, q2⟩ := doc_set HK3.out (.string h') (.slice ad3 xs'.length c3) (.string t')
  exact bodyPost_ret (v := .tuple #[.agg #[.string h', .slice ad3 xs'.length c3, .string t'], .int .i64 0]) (by simp [results, Tryd.f20, go_sem, q0, q1, q2]) rfl ⟨ad3, c3, rfl, own_set3 (Own.rebase HO3.out (by rw [World.size_setCell]; omega)) HK3.out (by decide) _ _ _, fun e => absurd e hnn3, below_set3 HB3.out (by omega) _ _ _⟩
end Go.Proofs.YtkkggpahanddnaaDoor
