/- Walks: the reference's documents: whether one is small, a piece, the body. -/
import Derived.Test.YtkkggpahanddnaaDoorH5
import Derived.Test.YtkkggpahanddnaaDoorP1
namespace Go.Proofs.YtkkggpahanddnaaDoor
open Go.RowKit
attribute [local go_sem] Ext.cell Ext.frozen
attribute [local go_sem ↓] Go.wp_at_zero Go.wp_at_succ

/-- all pieces are short, and there are few -/
def fewV (l : List ByteArray) : Bool := l.all (fun s => decide (s.size ≤ 2000)) && decide (l.length ≤ 22)
theorem fewV_facts {l : List ByteArray} (h : fewV l = true) : (∀ s ∈ l, s.size ≤ 2000) ∧ l.length ≤ 22 := by
  unfold fewV at h
  rw [Bool.and_eq_true, List.all_eq_true, decide_eq_true_eq] at h
  exact ⟨fun s hs => by simpa using h.1 s hs, h.2⟩
theorem SlPost.sl {w w' : World} {l : List ByteArray} {ad : Option Addr} {c : Nat} (h : w'.ownsRow w.heap.size 9 1 (.slice ad l.length c) l.length (strs l)) : Sl w' ad l.length (strs l) := Own.sl h
set_option maxRecDepth 20000 in
set_option maxHeartbeats 4000000 in
theorem few_any (h t : ByteArray) (ad : Option Addr) (n c : Nat) (xs : List ByteArray) (w : World) (hx : Sl w ad n (strs xs)) (hc : ad = none → c = 0) (hr : n * 16 ≤ 140737488351232) :
    Calls Tryd.prog 11 #[.agg #[.string h, .slice ad n c, .string t]] w fun e w' => e = .returned (.bool (fewV (allV h xs t))) ∧ Below w.heap.size w w' := by
  have HA : Hid (∀ w', Below w.heap.size w w' → Calls Tryd.prog 33 #[.agg #[.string h, .slice ad n c, .string t]] w' (SlPost w' (allV h xs t))) := fun w' g => all_any h t ad n c xs w' (hx.below g) hc hr
  have hll : (allV h xs t).length ≤ 9223372036854775807 := by rw [allV_len]; have := hx.len; rw [strs_length] at this; omega
  clear hx hc hr
  generalize allV h xs t = l at *
  go_enter Tryd.func11, Tryd.ntmps11
  go_wp2_with fail
  refine (HA.out _ ((Below.refl _ _).alloc (Nat.le_refl _) _)).mono ?_
  rintro e w1 ⟨ad1, c1, rfl, hown, hb⟩
  obtain ⟨b, off, hs⟩ := Own.sl hown
  have HS := Lib.hid hs
  have HB : Hid (Below w.heap.size w w1) := ((Below.refl _ _).alloc (Nat.le_refl _) _).trans (hb.mono (by simp))
  clear hown hb hs HA
  go_wp2_with fail
  go_loop [4] (fun i => ∃ k : Nat, i = .int .i64 (k : Int) ∧ k ≤ l.length ∧ (l.take k).all (fun s => decide (s.size ≤ 2000)) = true) (fun i => l.length - (intOf i).toNat)
  case atStart => exact ⟨0, rfl, Nat.zero_le _, by simp⟩
  case round =>
    obtain ⟨k, rfl, hkn, hall⟩ := hrel
    have HALL := Lib.hid hall
    clear hall
    by_cases hlt : k < l.length
    · have hix := fun W => HS.out.ix (c := c1) 22 9 Tryd.underlying22 cellsS hlt (W := W)
      have h0 := HS.out.cell k hlt
      rw [strs_getD _ _ hlt] at h0
      have HST := Lib.hid (all_take_succ (fun s : ByteArray => decide (s.size ≤ 2000)) l k hlt .empty)
      have HNO := Lib.hid (all_of_getD (fun s : ByteArray => decide (s.size ≤ 2000)) l k hlt .empty)
      generalize l.getD k .empty = p at *
      by_cases hp : p.size ≤ 2000
      · have hp' : ¬ 2000 < (p.size : Int) := by omega
        have HS2 : Hid ((l.take (k + 1)).all (fun s => decide (s.size ≤ 2000)) = true) := by unfold Hid; rw [HST.out, HALL.out, decide_eq_true hp]; rfl
        go_wp2_with fail
        go_round
        case rel => exact ⟨k + 1, by go_num, by omega, HS2.out⟩
        case measure => simp [intOf]; omega
      · have hp' : 2000 < (p.size : Int) := by omega
        have HF : Hid (fewV l = false) := by unfold Hid fewV; rw [HNO.out (decide_eq_false hp)]; rfl
        go_wp2_with fail
        go_ret
        exact ⟨by rw [HF.out]; rfl, HB.out⟩
    · have hke : k = l.length := by omega
      have HF : Hid (fewV l = decide ((l.length : Int) ≤ 22)) := by
        unfold Hid fewV
        have h1 := HALL.out
        rw [List.take_of_length_le (by omega)] at h1
        rw [h1, Bool.true_and]
        exact decide_eq_decide.2 (by omega)
      subst hke
      go_wp2_with fail
      go_ret
      exact ⟨by rw [HF.out]; rfl, HB.out⟩
/-- a text and whether there is one -/
def getR (r : ByteArray × Bool) : Value := .tuple #[.string r.1, .bool r.2]
set_option maxRecDepth 20000 in
set_option maxHeartbeats 4000000 in
theorem rget_any (h t : ByteArray) (ad : Option Addr) (n c : Nat) (xs : List ByteArray) (i : Int) (w : World) (hx : Sl w ad n (strs xs)) (hc : ad = none → c = 0) (hr : n * 16 ≤ 140737488351232) :
    Calls Tryd.prog 18 #[.agg #[.string h, .slice ad n c, .string t], .int .i64 i] w fun e w' => e = .returned (getR (getV (allV h xs t) i)) ∧ Below w.heap.size w w' := by
  have HA : Hid (∀ w', Below w.heap.size w w' → Calls Tryd.prog 33 #[.agg #[.string h, .slice ad n c, .string t]] w' (SlPost w' (allV h xs t))) := fun w' g => all_any h t ad n c xs w' (hx.below g) hc hr
  have hll : (allV h xs t).length ≤ 9223372036854775807 := by rw [allV_len]; have := hx.len; rw [strs_length] at this; omega
  clear hx hc hr
  generalize allV h xs t = l at *
  by_cases hi : 0 ≤ i ∧ i < (l.length : Int)
  · obtain ⟨k, rfl⟩ : ∃ k : Nat, i = (k : Int) := ⟨i.toNat, by omega⟩
    have hlt : k < l.length := by omega
    have hlt' : (k : Int) < (l.length : Int) := by omega
    have HG := Lib.hid (getV_in hlt)
    clear hi
    go_enter Tryd.func18, Tryd.ntmps18
    go_wp2_with fail
    refine (HA.out _ (((Below.refl _ _).alloc (Nat.le_refl _) _))).mono ?_
    rintro e w1 ⟨ad1, c1, rfl, hown, hb⟩
    obtain ⟨b, off, hs⟩ := Own.sl hown
    have HB : Hid (Below w.heap.size w w1) := ((Below.refl _ _).alloc (Nat.le_refl _) _).trans (hb.mono (by simp))
    have hix := fun W => hs.ix (c := c1) 22 9 Tryd.underlying22 cellsS hlt (W := W)
    have h0 := hs.cell k hlt
    rw [strs_getD _ _ hlt] at h0
    clear hown hb hs HA
    generalize l.getD k .empty = p at *
    go_wp2_with fail
    go_ret2
    exact ⟨by rw [HG.out]; rfl, HB.out⟩
  · have HG := Lib.hid (getV_out (l := l) (i := i) (by omega))
    by_cases hn : i < 0
    · clear hi
      go_enter Tryd.func18, Tryd.ntmps18
      go_wp2_with fail
      refine (HA.out _ (((Below.refl _ _).alloc (Nat.le_refl _) _))).mono ?_
      rintro e w1 ⟨ad1, c1, rfl, hown, hb⟩
      have HB : Hid (Below w.heap.size w w1) := ((Below.refl _ _).alloc (Nat.le_refl _) _).trans (hb.mono (by simp))
      clear hown hb HA
      go_wp2_with fail
      go_ret2
      exact ⟨by rw [HG.out]; rfl, HB.out⟩
    · have h1 : ¬ i < (l.length : Int) := by omega
      have h2 : (l.length : Int) ≤ i := by omega
      clear hi
      go_enter Tryd.func18, Tryd.ntmps18
      go_wp2_with fail
      refine (HA.out _ (((Below.refl _ _).alloc (Nat.le_refl _) _))).mono ?_
      rintro e w1 ⟨ad1, c1, rfl, hown, hb⟩
      have HB : Hid (Below w.heap.size w w1) := ((Below.refl _ _).alloc (Nat.le_refl _) _).trans (hb.mono (by simp))
      clear hown hb HA
      go_wp2_with fail
      go_ret2
      exact ⟨by rw [HG.out]; rfl, HB.out⟩
set_option maxRecDepth 20000 in
set_option maxHeartbeats 4000000 in
theorem rbody_any (h t : ByteArray) (ad : Option Addr) (n c : Nat) (xs : List ByteArray) (w : World) (hx : Sl w ad n (strs xs)) (hc : ad = none → c = 0) (hf : fewV (allV h xs t) = true) :
    Calls Tryd.prog 22 #[.agg #[.string h, .slice ad n c, .string t]] w fun e w' => e = .returned (.string (bs (catV (allV h xs t)))) ∧ Below w.heap.size w w' := by
  obtain ⟨hf1, hf2⟩ := fewV_facts hf
  have HA : Hid (∀ w', Below w.heap.size w w' → Calls Tryd.prog 33 #[.agg #[.string h, .slice ad n c, .string t]] w' (SlPost w' (allV h xs t))) := fun w' g => all_any h t ad n c xs w' (hx.below g) hc (by rw [allV_len] at hf2; have := hx.len; rw [strs_length] at this; omega)
  have HF := Lib.hid hf1
  clear hx hc hf hf1
  generalize allV h xs t = l at *
  go_enter Tryd.func22, Tryd.ntmps22
  go_wp2_with fail
  refine (HA.out _ ((Below.refl _ _).alloc (Nat.le_refl _) _)).mono ?_
  rintro e w1 ⟨ad1, c1, rfl, hown, hb⟩
  obtain ⟨b, off, hs⟩ := Own.sl hown
  have HS := Lib.hid hs
  have HB : Hid (Below w.heap.size w w1) := ((Below.refl _ _).alloc (Nat.le_refl _) _).trans (hb.mono (by simp))
  clear hown hb hs HA
  go_wp2_with fail
  go_loop [3, 5] (fun v i => ∃ k : Nat, i = .int .i64 (k : Int) ∧ k ≤ l.length ∧ v = .string (bs (catV (l.take k)))) (fun _ i => l.length - (intOf i).toNat)
  case atStart => exact ⟨0, rfl, Nat.zero_le _, rfl⟩
  case round =>
    obtain ⟨k, rfl, hkn, rfl⟩ := hrel
    by_cases hlt : k < l.length
    · have hix := fun W => HS.out.ix (c := c1) 22 9 Tryd.underlying22 cellsS hlt (W := W)
      have h0 := HS.out.cell k hlt
      rw [strs_getD _ _ hlt] at h0
      have HST : Hid (bs (catV (l.take (k + 1))) = bs (catV (l.take k)) ++ l.getD k .empty) := by
        unfold Hid
        rw [catV_take_succ l k hlt, ← bs_append, ← bs_of]
      have hp : (l.getD k .empty).size ≤ 2000 := HF.out _ (getD_mem l k _ hlt)
      have hq : (bs (catV (l.take k))).size ≤ 100000 := by
        rw [bs_size]
        have := catV_le (l := l.take k) (m := 2000) (fun x hx => HF.out x (List.mem_of_mem_take hx))
        have h3 : (l.take k).length ≤ 22 := by rw [List.length_take]; omega
        have := Nat.mul_le_mul_right 2000 h3
        omega
      generalize l.getD k .empty = p at *
      generalize bs (catV (l.take k)) = q at *
      go_wp2_with fail
      go_round
      case rel => exact ⟨k + 1, by go_num, by omega, by rw [HST.out]⟩
      case measure => simp [intOf]; omega
    · have hke : k = l.length := by omega
      have HT : Hid (bs (catV (l.take k)) = bs (catV l)) := by unfold Hid; rw [List.take_of_length_le (by omega)]
      generalize bs (catV (l.take k)) = q at *
      subst hke
      go_wp2_with fail
      go_ret
      exact ⟨by rw [← HT.out]; rfl, HB.out⟩
end Go.Proofs.YtkkggpahanddnaaDoor
