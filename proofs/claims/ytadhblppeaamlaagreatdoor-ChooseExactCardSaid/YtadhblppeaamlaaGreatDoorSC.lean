/- Walks: whether a list of the reference's has an element; the lists of moduli and of classes; whether a string is a class. -/
import Derived.Test.YtadhblppeaamlaaGreatDoorSA
namespace Go.Proofs.YtadhblppeaamlaaGreatDoor
open Go.RowKit
attribute [local go_sem] Ext.cell Ext.frozen
attribute [local go_sem ↓] Go.wp_at_zero Go.wp_at_succ

set_option maxRecDepth 20000 in
theorem rhas_int (ad : Option Addr) (n c : Nat) (l : List Int) (x : Int) (w : World) (hr : Sl w ad n (ints l)) :
    Calls Tryz.prog 86 #[.slice ad n c, .int .i64 x] w fun e w' => e = .returned (.bool (l.contains x)) ∧ w = w' := by
  rw [← any_contains l x 0]
  obtain ⟨b, off, hr⟩ := hr
  have hn : l.length = n := by have := hr.len; rwa [ints_length] at this
  have HN := Lib.hid hn
  have HR := Lib.hid hr
  have hm := hr.max
  clear hr hn
  obtain ⟨q, hq⟩ : ∃ q, anyP (fun i => decide (l.getD i 0 = x)) l.length = q := ⟨_, rfl⟩
  rw [hq]
  rw [HN.out] at hq
  have HQ := Lib.hid hq
  clear hq
  go_enter Tryz.func86, Tryz.ntmps86
  go_wp2_with fail
  go_loop [5] (fun v => ∃ k : Nat, v = .int .i64 (k : Int) ∧ k ≤ n ∧ (∀ i, i < k → decide (l.getD i 0 = x) = false)) (fun v => n - (intOf v).toNat)
  case atStart => exact ⟨0, rfl, Nat.zero_le _, fun i hi => absurd hi (Nat.not_lt_zero _)⟩
  case round =>
    obtain ⟨k, rfl, hkn, hm0⟩ := hrel
    have HM := Lib.hid hm0
    clear hm0
    by_cases hlt : k < n
    · have hix := fun W => HR.out.ix 70 3 Tryz.underlying70 (by kernel_rfl) hlt (c := c) W
      have hc := HR.out.cell k hlt
      rw [ints_getD _ _ (by rw [HN.out]; exact hlt)] at hc
      by_cases he : l.getD k 0 = x
      · have HE := Lib.hid (decide_eq_true he)
        have HO : Hid (q = true) := HQ.out.symm.trans (List.any_eq_true.2 ⟨k, List.mem_range.2 hlt, HE.out⟩)
        generalize l.getD k 0 = y at hc he
        have e1 : (y == x) = true := by rw [he]; simp
        clear he
        go_wp2_with fail
        go_ret
        exact ⟨by rw [HO.out]; rfl, rfl⟩
      · have HE := Lib.hid (decide_eq_false he)
        generalize l.getD k 0 = y at hc he
        have e1 : (y == x) = false := by rw [beq_eq_false_iff_ne]; exact fun e => he e
        clear he
        go_wp2_with fail
        go_round
        case rel =>
          refine ⟨k + 1, by go_num, by omega, fun i hi => ?_⟩
          by_cases e : i = k
          · subst e; exact HE.out
          · exact HM.out i (by omega)
        case measure => simp [intOf]; omega
    · obtain rfl : k = n := by omega
      have HO : Hid (q = false) := HQ.out.symm.trans (by
        unfold anyP
        rw [← Bool.not_eq_true, List.any_eq_true]
        rintro ⟨i, hi, hp⟩
        rw [HM.out i (List.mem_range.1 hi)] at hp
        cases hp)
      go_wp2_with fail
      go_ret
      exact ⟨by rw [HO.out]; rfl, rfl⟩

set_option maxRecDepth 20000 in
theorem rhas_str (ad : Option Addr) (n c : Nat) (l : List ByteArray) (x : ByteArray) (w : World) (hr : Sl w ad n (strs l)) :
    Calls Tryz.prog 56 #[.slice ad n c, .string x] w fun e w' => e = .returned (.bool (l.contains x)) ∧ w = w' := by
  rw [← any_contains l x .empty]
  obtain ⟨b, off, hr⟩ := hr
  have hn : l.length = n := by have := hr.len; rwa [strs_length] at this
  have HN := Lib.hid hn
  have HR := Lib.hid hr
  have hm := hr.max
  clear hr hn
  obtain ⟨q, hq⟩ : ∃ q, anyP (fun i => decide (l.getD i .empty = x)) l.length = q := ⟨_, rfl⟩
  rw [hq]
  rw [HN.out] at hq
  have HQ := Lib.hid hq
  clear hq
  go_enter Tryz.func56, Tryz.ntmps56
  go_wp2_with fail
  go_loop [5] (fun v => ∃ k : Nat, v = .int .i64 (k : Int) ∧ k ≤ n ∧ (∀ i, i < k → decide (l.getD i .empty = x) = false)) (fun v => n - (intOf v).toNat)
  case atStart => exact ⟨0, rfl, Nat.zero_le _, fun i hi => absurd hi (Nat.not_lt_zero _)⟩
  case round =>
    obtain ⟨k, rfl, hkn, hm0⟩ := hrel
    have HM := Lib.hid hm0
    clear hm0
    by_cases hlt : k < n
    · have hix := fun W => HR.out.ix 28 9 Tryz.underlying28 (by kernel_rfl) hlt (c := c) W
      have hc := HR.out.cell k hlt
      rw [strs_getD _ _ (by rw [HN.out]; exact hlt)] at hc
      by_cases he : l.getD k .empty = x
      · have HE := Lib.hid (decide_eq_true he)
        have HO : Hid (q = true) := HQ.out.symm.trans (List.any_eq_true.2 ⟨k, List.mem_range.2 hlt, HE.out⟩)
        generalize l.getD k .empty = y at hc he
        have e1 : (y.toList == x.toList) = true := by rw [he]; simp
        clear he
        go_wp2_with fail
        go_ret
        exact ⟨by rw [HO.out]; rfl, rfl⟩
      · have HE := Lib.hid (decide_eq_false he)
        generalize l.getD k .empty = y at hc he
        have e1 : (y.toList == x.toList) = false := by rw [beq_eq_false_iff_ne]; exact fun e => he (ByteArray.ext (by simpa [ByteArray.toList_eq] using e))
        clear he
        go_wp2_with fail
        go_round
        case rel =>
          refine ⟨k + 1, by go_num, by omega, fun i hi => ?_⟩
          by_cases e : i = k
          · subst e; exact HE.out
          · exact HM.out i (by omega)
        case measure => simp [intOf]; omega
    · obtain rfl : k = n := by omega
      have HO : Hid (q = false) := HQ.out.symm.trans (by
        unfold anyP
        rw [← Bool.not_eq_true, List.any_eq_true]
        rintro ⟨i, hi, hp⟩
        rw [HM.out i (List.mem_range.1 hi)] at hp
        cases hp)
      go_wp2_with fail
      go_ret
      exact ⟨by rw [HO.out]; rfl, rfl⟩

set_option maxRecDepth 20000 in
theorem rin_str (ad : Option Addr) (n c : Nat) (l : List ByteArray) (x : ByteArray) (w : World) (hr : Sl w ad n (strs l)) :
    Calls Tryz.prog 13 #[.slice ad n c, .string x] w fun e w' => e = .returned (.bool (l.contains x)) ∧ w = w' := by
  rw [← any_contains l x .empty]
  obtain ⟨b, off, hr⟩ := hr
  have hn : l.length = n := by have := hr.len; rwa [strs_length] at this
  have HN := Lib.hid hn
  have HR := Lib.hid hr
  have hm := hr.max
  clear hr hn
  obtain ⟨q, hq⟩ : ∃ q, anyP (fun i => decide (l.getD i .empty = x)) l.length = q := ⟨_, rfl⟩
  rw [hq]
  rw [HN.out] at hq
  have HQ := Lib.hid hq
  clear hq
  go_enter Tryz.func13, Tryz.ntmps13
  go_wp2_with fail
  go_loop [5] (fun v => ∃ k : Nat, v = .int .i64 (k : Int) ∧ k ≤ n ∧ (∀ i, i < k → decide (l.getD i .empty = x) = false)) (fun v => n - (intOf v).toNat)
  case atStart => exact ⟨0, rfl, Nat.zero_le _, fun i hi => absurd hi (Nat.not_lt_zero _)⟩
  case round =>
    obtain ⟨k, rfl, hkn, hm0⟩ := hrel
    have HM := Lib.hid hm0
    clear hm0
    by_cases hlt : k < n
    · have hix := fun W => HR.out.ix 28 9 Tryz.underlying28 (by kernel_rfl) hlt (c := c) W
      have hc := HR.out.cell k hlt
      rw [strs_getD _ _ (by rw [HN.out]; exact hlt)] at hc
      by_cases he : l.getD k .empty = x
      · have HE := Lib.hid (decide_eq_true he)
        have HO : Hid (q = true) := HQ.out.symm.trans (List.any_eq_true.2 ⟨k, List.mem_range.2 hlt, HE.out⟩)
        generalize l.getD k .empty = y at hc he
        have e1 : (y.toList == x.toList) = true := by rw [he]; simp
        clear he
        go_wp2_with fail
        go_ret
        exact ⟨by rw [HO.out]; rfl, rfl⟩
      · have HE := Lib.hid (decide_eq_false he)
        generalize l.getD k .empty = y at hc he
        have e1 : (y.toList == x.toList) = false := by rw [beq_eq_false_iff_ne]; exact fun e => he (ByteArray.ext (by simpa [ByteArray.toList_eq] using e))
        clear he
        go_wp2_with fail
        go_round
        case rel =>
          refine ⟨k + 1, by go_num, by omega, fun i hi => ?_⟩
          by_cases e : i = k
          · subst e; exact HE.out
          · exact HM.out i (by omega)
        case measure => simp [intOf]; omega
    · obtain rfl : k = n := by omega
      have HO : Hid (q = false) := HQ.out.symm.trans (by
        unfold anyP
        rw [← Bool.not_eq_true, List.any_eq_true]
        rintro ⟨i, hi, hp⟩
        rw [HM.out i (List.mem_range.1 hi)] at hp
        cases hp)
      go_wp2_with fail
      go_ret
      exact ⟨by rw [HO.out]; rfl, rfl⟩

/-- the moduli of an operand -/
def modsV (op : Int) : List Int := if op = 1 ∨ op = 2 then modsL else if op = 5 ∨ op = 6 then [10, 100] else []
theorem permV_mods (op md : Int) : permV op md = (modsV op).contains md := by
  unfold permV modsV
  split
  · rfl
  · split <;> rfl
theorem mods_any (op : Int) (w : World) : Calls Tryz.prog 87 #[.int .i64 op] w fun e w' => ∃ ad n c, e = .returned (.slice ad n c) ∧ Sl w' ad n (ints (modsV op)) ∧ Below w.heap.size w w' := by
  by_cases h12 : op = 1 ∨ op = 2
  · have HO : Hid (modsV op = modsL) := if_pos h12
    rw [HO.out]
    rcases h12 with h | h
    all_goals
      subst h
      go_enter Tryz.func87, Tryz.ntmps87
      go_wp2_with fail
      go_ret
      exact ⟨_, _, _, rfl, sl_made w (ints modsL) _ (by decide), (Below.refl _ _).alloc (Nat.le_refl _) _⟩
  · by_cases h56 : op = 5 ∨ op = 6
    · have HO : Hid (modsV op = [10, 100]) := by unfold Hid modsV; rw [if_neg h12, if_pos h56]
      rw [HO.out]
      rcases h56 with h | h
      all_goals
        subst h
        go_enter Tryz.func87, Tryz.ntmps87
        go_wp2_with fail
        go_ret
        exact ⟨_, _, _, rfl, sl_made w (ints [10, 100]) _ (by decide), (Below.refl _ _).alloc (Nat.le_refl _) _⟩
    · have HO : Hid (modsV op = []) := by unfold Hid modsV; rw [if_neg h12, if_neg h56]
      rw [HO.out]
      have e1 : (op == 1) = false := by simpa using fun h => h12 (.inl h)
      have e2 : (op == 2) = false := by simpa using fun h => h12 (.inr h)
      have e5 : (op == 5) = false := by simpa using fun h => h56 (.inl h)
      have e6 : (op == 6) = false := by simpa using fun h => h56 (.inr h)
      clear h12 h56
      go_enter Tryz.func87, Tryz.ntmps87
      go_wp2_with fail
      go_ret
      exact ⟨none, 0, 0, rfl, ⟨0, 0, rfl, Nat.zero_le _, fun h => absurd rfl h, fun i hi => absurd hi (Nat.not_lt_zero _)⟩, Below.refl _ _⟩
/-- the classes of rules -/
def classL : List ByteArray := [bs [122, 101, 114, 111], bs [111, 110, 101], bs [116, 119, 111], bs [102, 101, 119], bs [109, 97, 110, 121]]
theorem knownC_list (s : ByteArray) : knownC s = classL.contains s := rfl
theorem classes_any (w : World) : Calls Tryz.prog 57 #[] w fun e w' => ∃ ad n c, e = .returned (.slice ad n c) ∧ Sl w' ad n (strs classL) ∧ Below w.heap.size w w' := by
  go_enter Tryz.func57, Tryz.ntmps57
  go_wp2_with fail
  go_ret
  exact ⟨_, _, _, rfl, sl_made w (strs classL) _ (by decide), (Below.refl _ _).alloc (Nat.le_refl _) _⟩
end Go.Proofs.YtadhblppeaamlaaGreatDoor
