/- Walks: slices.IndexFunc and ContainsFunc at structs, Index and Contains at integers and strings. -/
import Derived.Test.YtmleeodfmmpdgaaGreatDoorQ11
import Derived.Deep.DrawnRows
import Derived.Shelf.Abstract
import Derived.OwnWalk
import Derived.Deep.AppendLies
namespace Go.Proofs.YtmleeodfmmpdgaaGreatDoor
open Go.RowKit
attribute [local go_sem] Ext.cell Ext.frozen
attribute [local go_sem ↓] Go.wp_at_zero Go.wp_at_succ

def idxP (p : Nat → Bool) (n : Nat) : Int := match (List.range n).find? p with
  | some i => (i : Int)
  | none => -1
def anyP (p : Nat → Bool) (n : Nat) : Bool := (List.range n).any p
theorem idxP_hit {p : Nat → Bool} {n k : Nat} (hk : k < n) (hp : p k = true) (h : ∀ i, i < k → p i = false) : idxP p n = k := by
  have e : List.range n = List.range k ++ k :: List.range' (k + 1) (n - k - 1) := by
    rw [List.range_eq_range', List.range_eq_range', ← List.range'_succ, show n - k - 1 + 1 = n - k from by omega]
    have := List.range'_append (s := 0) (m := k) (n := n - k) (step := 1)
    rw [show 0 + 1 * k = k from by omega, show k + (n - k) = n from by omega] at this
    exact this.symm
  have h0 : (List.range k).find? p = none := List.find?_eq_none.2 fun i hi => by rw [h i (List.mem_range.1 hi)]; simp
  unfold idxP
  rw [e, List.find?_append, h0, List.find?_cons_of_pos hp]
  rfl
theorem idxP_miss {p : Nat → Bool} {n : Nat} (h : ∀ i, i < n → p i = false) : idxP p n = -1 := by
  have h0 : (List.range n).find? p = none := List.find?_eq_none.2 fun i hi => by rw [h i (List.mem_range.1 hi)]; simp
  unfold idxP
  rw [h0]
theorem idxP_cases (p : Nat → Bool) (n : Nat) : (∃ k, k < n ∧ p k = true ∧ (∀ i, i < k → p i = false) ∧ idxP p n = k) ∨ (∀ i, i < n → p i = false) ∧ idxP p n = -1 := by
  by_cases h : ∃ k, k < n ∧ p k = true
  · obtain ⟨k, hk, hp⟩ := h
    have : ∃ k, (k < n ∧ p k = true) ∧ ∀ i, i < k → ¬ (i < n ∧ p i = true) := by
      induction k using Nat.strongRecOn with
      | ind k ih =>
        by_cases h2 : ∃ j, j < k ∧ (j < n ∧ p j = true)
        · obtain ⟨j, hj, hjn, hjp⟩ := h2
          exact ih j hj hjn hjp
        · exact ⟨k, ⟨hk, hp⟩, fun i hi hc => h2 ⟨i, hi, hc⟩⟩
    obtain ⟨k, ⟨hk, hp⟩, hm⟩ := this
    have hm2 : ∀ i, i < k → p i = false := fun i hi => by
      cases e : p i with
      | false => rfl
      | true => exact absurd ⟨by omega, e⟩ (hm i hi)
    exact .inl ⟨k, hk, hp, hm2, idxP_hit hk hp hm2⟩
  · have hm : ∀ i, i < n → p i = false := fun i hi => by
      cases e : p i with
      | false => rfl
      | true => exact absurd ⟨i, hi, e⟩ h
    exact .inr ⟨hm, idxP_miss hm⟩
theorem anyP_idx (p : Nat → Bool) (n : Nat) : decide (0 ≤ idxP p n) = anyP p n := by
  rcases idxP_cases p n with ⟨k, hk, hp, _, e⟩ | ⟨hm, e⟩
  · rw [e, show anyP p n = true from List.any_eq_true.2 ⟨k, List.mem_range.2 hk, hp⟩]
    simp
  · rw [e, show anyP p n = false from by
      unfold anyP
      rw [← Bool.not_eq_true, List.any_eq_true]
      rintro ⟨i, hi, hp⟩
      rw [hm i (List.mem_range.1 hi)] at hp
      cases hp]
    rfl
theorem anyP_list {α : Type} (q : α → Bool) (l : List α) (d : α) : anyP (fun i => q (l.getD i d)) l.length = l.any q := by
  rw [Bool.eq_iff_iff]
  unfold anyP
  rw [List.any_eq_true, List.any_eq_true]
  constructor
  · rintro ⟨i, hi, h⟩
    exact ⟨_, getD_mem l i d (List.mem_range.1 hi), h⟩
  · rintro ⟨x, hx, h⟩
    obtain ⟨i, hi, rfl⟩ := List.getElem_of_mem hx
    exact ⟨i, List.mem_range.2 hi, by simpa [List.getD, List.getElem?_eq_getElem hi] using h⟩
set_option maxRecDepth 20000 in
theorem idx_Rule (p : Nat → Bool) (g : Nat) (lb : Array Value) (eg : ∀ args w, (callFunc g args).run Tryz.prog w = .ok (.enter g args) w) (ad : Option Addr) (n c : Nat) (f : Nat → Nat → Value) (b off : Nat) (w : World) (hr : Rw w ad n 2 f b off)
    (hp : ∀ W i, i < n → Below w.heap.size w W → Calls Tryz.prog g (#[.agg #[f i 0, f i 1]] ++ lb) W fun e w' => e = .returned (.bool (p i)) ∧ Below W.heap.size W w') :
    Calls Tryz.prog 250 #[.slice ad n c, .func (.func g) #[] lb] w fun e w' => e = .returned (.int .i64 (idxP p n)) ∧ Below w.heap.size w w' := by
  have HR := Lib.hid hr
  have HP := Lib.hid hp
  have hm := hr.max
  clear hr hp
  go_enter Tryz.func250, Tryz.ntmps250
  go_wp2_with fail
  go_loopw [5, 8] (fun _ v wr => ∃ k : Nat, v = .int .i64 (k : Int) ∧ k ≤ n ∧ (∀ i, i < k → p i = false) ∧ Below w.heap.size w wr) (fun _ v _ => n - (intOf v).toNat)
  case atStart => exact ⟨0, rfl, Nat.zero_le _, fun i hi => absurd hi (Nat.not_lt_zero _), Below.refl _ _⟩
  case round =>
    obtain ⟨k, rfl, hkn, hm0, hbl⟩ := hrel
    have HM := Lib.hid hm0
    have HBL := Lib.hid hbl
    clear hm0 hbl
    by_cases hlt : k < n
    · have HRR := Lib.hid (HR.out.below HBL.out)
      have hix := fun W => HRR.out.ix 38 51 Tryz.underlying38 (by kernel_rfl) (by omega) hlt c W
      have c0 : wr.cell? ⟨b, off + k * 2, none⟩ = some (f k 0) := HRR.out.cell k 0 hlt (by omega)
      have c1 : wr.cell? ⟨b, off + k * 2 + 1, none⟩ = some (f k 1) := HRR.out.cell k 1 hlt (by omega)
      have HCALL := Lib.hid (HP.out wr k hlt HBL.out)
      clear HRR
      cases hq : p k with
      | true =>
        have HQ := Lib.hid hq
        rw [Hid, hq] at HCALL
        clear hq
        go_wp2_with (go_at_fn g; refine HCALL.mono ?_; rintro e w' ⟨rfl, hb'⟩)
        go_ret
        exact ⟨ret_int (idxP_hit hlt HQ.out HM.out).symm, HBL.out.trans (hb'.mono HBL.out.size)⟩
      | false =>
        have HQ := Lib.hid hq
        rw [Hid, hq] at HCALL
        clear hq
        go_wp2_with (go_at_fn g; refine HCALL.mono ?_; rintro e w' ⟨rfl, hb'⟩)
        go_roundw
        case rel =>
          refine ⟨k + 1, by go_num, by omega, fun i hi => ?_, HBL.out.trans (hb'.mono HBL.out.size)⟩
          by_cases e : i = k
          · subst e; exact HQ.out
          · exact HM.out i (by omega)
        case measure => simp [intOf]; omega
    · obtain rfl : k = n := by omega
      go_wp2_with fail
      go_ret
      exact ⟨ret_int (idxP_miss HM.out).symm, HBL.out⟩

theorem cont_Rule (p : Nat → Bool) (g : Nat) (lb : Array Value) (eg : ∀ args w, (callFunc g args).run Tryz.prog w = .ok (.enter g args) w) (ad : Option Addr) (n c : Nat) (f : Nat → Nat → Value) (b off : Nat) (w : World) (hr : Rw w ad n 2 f b off)
    (hp : ∀ W i, i < n → Below w.heap.size w W → Calls Tryz.prog g (#[.agg #[f i 0, f i 1]] ++ lb) W fun e w' => e = .returned (.bool (p i)) ∧ Below W.heap.size W w') :
    Calls Tryz.prog 198 #[.slice ad n c, .func (.func g) #[] lb] w fun e w' => e = .returned (.bool (anyP p n)) ∧ Below w.heap.size w w' := by
  have HC := Lib.hid (idx_Rule p g lb eg ad n c f b off w hr hp)
  clear hr hp eg
  rw [← anyP_idx]
  generalize idxP p n = z at *
  go_enter Tryz.func198, Tryz.ntmps198
  go_wp2_with (go_at_call 250; refine HC.out.mono ?_; rintro e w' ⟨rfl, hb'⟩)
  go_ret
  exact ⟨rfl, hb'⟩

set_option maxRecDepth 20000 in
theorem idx_Rel (p : Nat → Bool) (g : Nat) (lb : Array Value) (eg : ∀ args w, (callFunc g args).run Tryz.prog w = .ok (.enter g args) w) (ad : Option Addr) (n c : Nat) (f : Nat → Nat → Value) (b off : Nat) (w : World) (hr : Rw w ad n 4 f b off)
    (hp : ∀ W i, i < n → Below w.heap.size w W → Calls Tryz.prog g (#[.agg #[f i 0, f i 1, f i 2, f i 3]] ++ lb) W fun e w' => e = .returned (.bool (p i)) ∧ Below W.heap.size W w') :
    Calls Tryz.prog 251 #[.slice ad n c, .func (.func g) #[] lb] w fun e w' => e = .returned (.int .i64 (idxP p n)) ∧ Below w.heap.size w w' := by
  have HR := Lib.hid hr
  have HP := Lib.hid hp
  have hm := hr.max
  clear hr hp
  go_enter Tryz.func251, Tryz.ntmps251
  go_wp2_with fail
  go_loopw [5, 8] (fun _ v wr => ∃ k : Nat, v = .int .i64 (k : Int) ∧ k ≤ n ∧ (∀ i, i < k → p i = false) ∧ Below w.heap.size w wr) (fun _ v _ => n - (intOf v).toNat)
  case atStart => exact ⟨0, rfl, Nat.zero_le _, fun i hi => absurd hi (Nat.not_lt_zero _), Below.refl _ _⟩
  case round =>
    obtain ⟨k, rfl, hkn, hm0, hbl⟩ := hrel
    have HM := Lib.hid hm0
    have HBL := Lib.hid hbl
    clear hm0 hbl
    by_cases hlt : k < n
    · have HRR := Lib.hid (HR.out.below HBL.out)
      have hix := fun W => HRR.out.ix 91 94 Tryz.underlying91 (by kernel_rfl) (by omega) hlt c W
      have c0 : wr.cell? ⟨b, off + k * 4, none⟩ = some (f k 0) := HRR.out.cell k 0 hlt (by omega)
      have c1 : wr.cell? ⟨b, off + k * 4 + 1, none⟩ = some (f k 1) := HRR.out.cell k 1 hlt (by omega)
      have c2 : wr.cell? ⟨b, off + k * 4 + 2, none⟩ = some (f k 2) := HRR.out.cell k 2 hlt (by omega)
      have c3 : wr.cell? ⟨b, off + k * 4 + 3, none⟩ = some (f k 3) := HRR.out.cell k 3 hlt (by omega)
      have HCALL := Lib.hid (HP.out wr k hlt HBL.out)
      clear HRR
      cases hq : p k with
      | true =>
        have HQ := Lib.hid hq
        rw [Hid, hq] at HCALL
        clear hq
        go_wp2_with (go_at_fn g; refine HCALL.mono ?_; rintro e w' ⟨rfl, hb'⟩)
        go_ret
        exact ⟨ret_int (idxP_hit hlt HQ.out HM.out).symm, HBL.out.trans (hb'.mono HBL.out.size)⟩
      | false =>
        have HQ := Lib.hid hq
        rw [Hid, hq] at HCALL
        clear hq
        go_wp2_with (go_at_fn g; refine HCALL.mono ?_; rintro e w' ⟨rfl, hb'⟩)
        go_roundw
        case rel =>
          refine ⟨k + 1, by go_num, by omega, fun i hi => ?_, HBL.out.trans (hb'.mono HBL.out.size)⟩
          by_cases e : i = k
          · subst e; exact HQ.out
          · exact HM.out i (by omega)
        case measure => simp [intOf]; omega
    · obtain rfl : k = n := by omega
      go_wp2_with fail
      go_ret
      exact ⟨ret_int (idxP_miss HM.out).symm, HBL.out⟩

theorem cont_Rel (p : Nat → Bool) (g : Nat) (lb : Array Value) (eg : ∀ args w, (callFunc g args).run Tryz.prog w = .ok (.enter g args) w) (ad : Option Addr) (n c : Nat) (f : Nat → Nat → Value) (b off : Nat) (w : World) (hr : Rw w ad n 4 f b off)
    (hp : ∀ W i, i < n → Below w.heap.size w W → Calls Tryz.prog g (#[.agg #[f i 0, f i 1, f i 2, f i 3]] ++ lb) W fun e w' => e = .returned (.bool (p i)) ∧ Below W.heap.size W w') :
    Calls Tryz.prog 200 #[.slice ad n c, .func (.func g) #[] lb] w fun e w' => e = .returned (.bool (anyP p n)) ∧ Below w.heap.size w w' := by
  have HC := Lib.hid (idx_Rel p g lb eg ad n c f b off w hr hp)
  clear hr hp eg
  rw [← anyP_idx]
  generalize idxP p n = z at *
  go_enter Tryz.func200, Tryz.ntmps200
  go_wp2_with (go_at_call 251; refine HC.out.mono ?_; rintro e w' ⟨rfl, hb'⟩)
  go_ret
  exact ⟨rfl, hb'⟩

def idxS (ss : List ByteArray) (x : ByteArray) : Int := idxP (fun i => decide (ss.getD i .empty = x)) ss.length
def idxI (zs : List Int) (x : Int) : Int := idxP (fun i => decide (zs.getD i 0 = x)) zs.length
theorem any_contains {α : Type} [DecidableEq α] [BEq α] [LawfulBEq α] (l : List α) (x d : α) : anyP (fun i => decide (l.getD i d = x)) l.length = l.contains x := by
  rw [anyP_list (fun y => decide (y = x)), Bool.eq_iff_iff, List.any_eq_true, List.contains_iff_mem]
  constructor
  · rintro ⟨y, hy, e⟩
    rw [← of_decide_eq_true e]; exact hy
  · exact fun h => ⟨x, h, decide_eq_true rfl⟩

set_option maxRecDepth 20000 in
theorem index_int (ad : Option Addr) (n c : Nat) (l : List Int) (x : Int) (w : World) (hr : Sl w ad n (ints l)) :
    Calls Tryz.prog 317 #[.slice ad n c, .int .i64 x] w fun e w' => e = .returned (.int .i64 (idxI l x)) ∧ w = w' := by
  obtain ⟨b, off, hr⟩ := hr
  have hn : l.length = n := by have := hr.len; rwa [ints_length] at this
  have HN := Lib.hid hn
  have HR := Lib.hid hr
  have hm := hr.max
  clear hr hn
  go_enter Tryz.func317, Tryz.ntmps317
  go_wp2_with fail
  go_loop [5, 8] (fun _ v => ∃ k : Nat, v = .int .i64 (k : Int) ∧ k ≤ n ∧ (∀ i, i < k → decide (l.getD i 0 = x) = false)) (fun _ v => n - (intOf v).toNat)
  case atStart => exact ⟨0, rfl, Nat.zero_le _, fun i hi => absurd hi (Nat.not_lt_zero _)⟩
  case round =>
    obtain ⟨k, rfl, hkn, hm0⟩ := hrel
    have HM := Lib.hid hm0
    clear hm0
    by_cases hlt : k < n
    · have hix := fun W => HR.out.ix 182 3 Tryz.underlying182 (by kernel_rfl) hlt (c := c) W
      have hc := HR.out.cell k hlt
      rw [ints_getD _ _ (by rw [HN.out]; exact hlt)] at hc
      have HK : Hid (∀ b, (decide (l.getD k 0 = x)) = b → b = decide (l.getD k 0 = x)) := fun _ h => h.symm
      clear HK
      by_cases he : l.getD k 0 = x
      · have HE := Lib.hid (decide_eq_true he)
        generalize l.getD k 0 = y at hc he
        have e1 : (x == y) = true := by rw [he]; simp
        clear he
        go_wp2_with fail
        go_ret
        exact ⟨ret_int (idxP_hit (by rw [HN.out]; exact hlt) HE.out HM.out).symm, rfl⟩
      · have HE := Lib.hid (decide_eq_false he)
        generalize l.getD k 0 = y at hc he
        have e1 : (x == y) = false := by rw [beq_eq_false_iff_ne]; exact fun e => he e.symm
        clear he
        go_wp2_with fail
        go_round
        case rel =>
          refine ⟨k + 1, by go_num, by omega, fun i hi => ?_⟩
          by_cases e : i = k
          · subst e; exact HE.out
          · exact HM.out i (by omega)
        case measure => simp [intOf]; omega
    · obtain rfl : k = n := by omega
      go_wp2_with fail
      go_ret
      exact ⟨ret_int (idxP_miss (by rw [HN.out]; exact HM.out)).symm, rfl⟩
theorem contains_int (ad : Option Addr) (n c : Nat) (l : List Int) (x : Int) (w : World) (hr : Sl w ad n (ints l)) :
    Calls Tryz.prog 294 #[.slice ad n c, .int .i64 x] w fun e w' => e = .returned (.bool (l.contains x)) ∧ w = w' := by
  have HC := Lib.hid (index_int ad n c l x w hr)
  clear hr
  rw [← any_contains l x 0, ← anyP_idx]
  change Calls Tryz.prog 294 #[.slice ad n c, .int .i64 x] w fun e w' => e = .returned (.bool (decide (0 ≤ idxI l x))) ∧ w = w'
  generalize idxI l x = z at *
  go_enter Tryz.func294, Tryz.ntmps294
  go_wp2_with (go_at_call 317; refine HC.out.mono ?_; rintro e _ ⟨rfl, rfl⟩)
  go_ret
  exact ⟨rfl, rfl⟩

set_option maxRecDepth 20000 in
theorem index_str (ad : Option Addr) (n c : Nat) (l : List ByteArray) (x : ByteArray) (w : World) (hr : Sl w ad n (strs l)) :
    Calls Tryz.prog 144 #[.slice ad n c, .string x] w fun e w' => e = .returned (.int .i64 (idxS l x)) ∧ w = w' := by
  obtain ⟨b, off, hr⟩ := hr
  have hn : l.length = n := by have := hr.len; rwa [strs_length] at this
  have HN := Lib.hid hn
  have HR := Lib.hid hr
  have hm := hr.max
  clear hr hn
  go_enter Tryz.func144, Tryz.ntmps144
  go_wp2_with fail
  go_loop [5, 8] (fun _ v => ∃ k : Nat, v = .int .i64 (k : Int) ∧ k ≤ n ∧ (∀ i, i < k → decide (l.getD i .empty = x) = false)) (fun _ v => n - (intOf v).toNat)
  case atStart => exact ⟨0, rfl, Nat.zero_le _, fun i hi => absurd hi (Nat.not_lt_zero _)⟩
  case round =>
    obtain ⟨k, rfl, hkn, hm0⟩ := hrel
    have HM := Lib.hid hm0
    clear hm0
    by_cases hlt : k < n
    · have hix := fun W => HR.out.ix 44 9 Tryz.underlying44 (by kernel_rfl) hlt (c := c) W
      have hc := HR.out.cell k hlt
      rw [strs_getD _ _ (by rw [HN.out]; exact hlt)] at hc
      have HK : Hid (∀ b, (decide (l.getD k .empty = x)) = b → b = decide (l.getD k .empty = x)) := fun _ h => h.symm
      clear HK
      by_cases he : l.getD k .empty = x
      · have HE := Lib.hid (decide_eq_true he)
        generalize l.getD k .empty = y at hc he
        have e1 : (x.toList == y.toList) = true := by rw [he]; simp
        clear he
        go_wp2_with fail
        go_ret
        exact ⟨ret_int (idxP_hit (by rw [HN.out]; exact hlt) HE.out HM.out).symm, rfl⟩
      · have HE := Lib.hid (decide_eq_false he)
        generalize l.getD k .empty = y at hc he
        have e1 : (x.toList == y.toList) = false := by rw [beq_eq_false_iff_ne]; exact fun e => he (ByteArray.ext (by simpa [ByteArray.toList_eq] using e.symm))
        clear he
        go_wp2_with fail
        go_round
        case rel =>
          refine ⟨k + 1, by go_num, by omega, fun i hi => ?_⟩
          by_cases e : i = k
          · subst e; exact HE.out
          · exact HM.out i (by omega)
        case measure => simp [intOf]; omega
    · obtain rfl : k = n := by omega
      go_wp2_with fail
      go_ret
      exact ⟨ret_int (idxP_miss (by rw [HN.out]; exact HM.out)).symm, rfl⟩
theorem contains_str (ad : Option Addr) (n c : Nat) (l : List ByteArray) (x : ByteArray) (w : World) (hr : Sl w ad n (strs l)) :
    Calls Tryz.prog 95 #[.slice ad n c, .string x] w fun e w' => e = .returned (.bool (l.contains x)) ∧ w = w' := by
  have HC := Lib.hid (index_str ad n c l x w hr)
  clear hr
  rw [← any_contains l x .empty, ← anyP_idx]
  change Calls Tryz.prog 95 #[.slice ad n c, .string x] w fun e w' => e = .returned (.bool (decide (0 ≤ idxS l x))) ∧ w = w'
  generalize idxS l x = z at *
  go_enter Tryz.func95, Tryz.ntmps95
  go_wp2_with (go_at_call 144; refine HC.out.mono ?_; rintro e _ ⟨rfl, rfl⟩)
  go_ret
  exact ⟨rfl, rfl⟩
set_option maxRecDepth 20000 in
theorem idx_lp (p : Nat → Bool) (g : Nat) (lb : Array Value) (eg : ∀ args w, (callFunc g args).run Tryz.prog w = .ok (.enter g args) w) (ad : Option Addr) (n c : Nat) (f : Nat → Nat → Value) (b off : Nat) (w : World) (hr : Rw w ad n 5 f b off)
    (hp : ∀ W i, i < n → Below w.heap.size w W → Calls Tryz.prog g (#[.agg #[f i 0, f i 1, f i 2, f i 3, f i 4]] ++ lb) W fun e w' => e = .returned (.bool (p i)) ∧ Below W.heap.size W w') :
    Calls Tryz.prog 254 #[.slice ad n c, .func (.func g) #[] lb] w fun e w' => e = .returned (.int .i64 (idxP p n)) ∧ Below w.heap.size w w' := by
  have HR := Lib.hid hr
  have HP := Lib.hid hp
  have hm := hr.max
  clear hr hp
  go_enter Tryz.func254, Tryz.ntmps254
  go_wp2_with fail
  go_loopw [5, 8] (fun _ v wr => ∃ k : Nat, v = .int .i64 (k : Int) ∧ k ≤ n ∧ (∀ i, i < k → p i = false) ∧ Below w.heap.size w wr) (fun _ v _ => n - (intOf v).toNat)
  case atStart => exact ⟨0, rfl, Nat.zero_le _, fun i hi => absurd hi (Nat.not_lt_zero _), Below.refl _ _⟩
  case round =>
    obtain ⟨k, rfl, hkn, hm0, hbl⟩ := hrel
    have HM := Lib.hid hm0
    have HBL := Lib.hid hbl
    clear hm0 hbl
    by_cases hlt : k < n
    · have HRR := Lib.hid (HR.out.below HBL.out)
      have hix := fun W => HRR.out.ix 41 130 Tryz.underlying41 (by kernel_rfl) (by omega) hlt c W
      have c0 : wr.cell? ⟨b, off + k * 5, none⟩ = some (f k 0) := HRR.out.cell k 0 hlt (by omega)
      have c1 : wr.cell? ⟨b, off + k * 5 + 1, none⟩ = some (f k 1) := HRR.out.cell k 1 hlt (by omega)
      have c2 : wr.cell? ⟨b, off + k * 5 + 2, none⟩ = some (f k 2) := HRR.out.cell k 2 hlt (by omega)
      have c3 : wr.cell? ⟨b, off + k * 5 + 3, none⟩ = some (f k 3) := HRR.out.cell k 3 hlt (by omega)
      have c4 : wr.cell? ⟨b, off + k * 5 + 4, none⟩ = some (f k 4) := HRR.out.cell k 4 hlt (by omega)
      have HCALL := Lib.hid (HP.out wr k hlt HBL.out)
      clear HRR
      cases hq : p k with
      | true =>
        have HQ := Lib.hid hq
        rw [Hid, hq] at HCALL
        clear hq
        go_wp2_with (go_at_fn g; refine HCALL.mono ?_; rintro e w' ⟨rfl, hb'⟩)
        go_ret
        exact ⟨ret_int (idxP_hit hlt HQ.out HM.out).symm, HBL.out.trans (hb'.mono HBL.out.size)⟩
      | false =>
        have HQ := Lib.hid hq
        rw [Hid, hq] at HCALL
        clear hq
        go_wp2_with (go_at_fn g; refine HCALL.mono ?_; rintro e w' ⟨rfl, hb'⟩)
        go_roundw
        case rel =>
          refine ⟨k + 1, by go_num, by omega, fun i hi => ?_, HBL.out.trans (hb'.mono HBL.out.size)⟩
          by_cases e : i = k
          · subst e; exact HQ.out
          · exact HM.out i (by omega)
        case measure => simp [intOf]; omega
    · obtain rfl : k = n := by omega
      go_wp2_with fail
      go_ret
      exact ⟨ret_int (idxP_miss HM.out).symm, HBL.out⟩
theorem cont_lp (p : Nat → Bool) (g : Nat) (lb : Array Value) (eg : ∀ args w, (callFunc g args).run Tryz.prog w = .ok (.enter g args) w) (ad : Option Addr) (n c : Nat) (f : Nat → Nat → Value) (b off : Nat) (w : World) (hr : Rw w ad n 5 f b off)
    (hp : ∀ W i, i < n → Below w.heap.size w W → Calls Tryz.prog g (#[.agg #[f i 0, f i 1, f i 2, f i 3, f i 4]] ++ lb) W fun e w' => e = .returned (.bool (p i)) ∧ Below W.heap.size W w') :
    Calls Tryz.prog 203 #[.slice ad n c, .func (.func g) #[] lb] w fun e w' => e = .returned (.bool (anyP p n)) ∧ Below w.heap.size w w' := by
  have HC := Lib.hid (idx_lp p g lb eg ad n c f b off w hr hp)
  clear hr hp eg
  rw [← anyP_idx]
  generalize idxP p n = z at *
  go_enter Tryz.func203, Tryz.ntmps203
  go_wp2_with (go_at_call 254; refine HC.out.mono ?_; rintro e w' ⟨rfl, hb'⟩)
  go_ret
  exact ⟨rfl, hb'⟩
set_option maxRecDepth 20000 in
theorem idx_up (p : Nat → Bool) (g : Nat) (lb : Array Value) (eg : ∀ args w, (callFunc g args).run Tryz.prog w = .ok (.enter g args) w) (ad : Option Addr) (n c : Nat) (f : Nat → Nat → Value) (b off : Nat) (w : World) (hr : Rw w ad n 3 f b off)
    (hp : ∀ W i, i < n → Below w.heap.size w W → Calls Tryz.prog g (#[.agg #[f i 0, f i 1, f i 2]] ++ lb) W fun e w' => e = .returned (.bool (p i)) ∧ Below W.heap.size W w') :
    Calls Tryz.prog 255 #[.slice ad n c, .func (.func g) #[] lb] w fun e w' => e = .returned (.int .i64 (idxP p n)) ∧ Below w.heap.size w w' := by
  have HR := Lib.hid hr
  have HP := Lib.hid hp
  have hm := hr.max
  clear hr hp
  go_enter Tryz.func255, Tryz.ntmps255
  go_wp2_with fail
  go_loopw [5, 8] (fun _ v wr => ∃ k : Nat, v = .int .i64 (k : Int) ∧ k ≤ n ∧ (∀ i, i < k → p i = false) ∧ Below w.heap.size w wr) (fun _ v _ => n - (intOf v).toNat)
  case atStart => exact ⟨0, rfl, Nat.zero_le _, fun i hi => absurd hi (Nat.not_lt_zero _), Below.refl _ _⟩
  case round =>
    obtain ⟨k, rfl, hkn, hm0, hbl⟩ := hrel
    have HM := Lib.hid hm0
    have HBL := Lib.hid hbl
    clear hm0 hbl
    by_cases hlt : k < n
    · have HRR := Lib.hid (HR.out.below HBL.out)
      have hix := fun W => HRR.out.ix 42 132 Tryz.underlying42 (by kernel_rfl) (by omega) hlt c W
      have c0 : wr.cell? ⟨b, off + k * 3, none⟩ = some (f k 0) := HRR.out.cell k 0 hlt (by omega)
      have c1 : wr.cell? ⟨b, off + k * 3 + 1, none⟩ = some (f k 1) := HRR.out.cell k 1 hlt (by omega)
      have c2 : wr.cell? ⟨b, off + k * 3 + 2, none⟩ = some (f k 2) := HRR.out.cell k 2 hlt (by omega)
      have HCALL := Lib.hid (HP.out wr k hlt HBL.out)
      clear HRR
      cases hq : p k with
      | true =>
        have HQ := Lib.hid hq
        rw [Hid, hq] at HCALL
        clear hq
        go_wp2_with (go_at_fn g; refine HCALL.mono ?_; rintro e w' ⟨rfl, hb'⟩)
        go_ret
        exact ⟨ret_int (idxP_hit hlt HQ.out HM.out).symm, HBL.out.trans (hb'.mono HBL.out.size)⟩
      | false =>
        have HQ := Lib.hid hq
        rw [Hid, hq] at HCALL
        clear hq
        go_wp2_with (go_at_fn g; refine HCALL.mono ?_; rintro e w' ⟨rfl, hb'⟩)
        go_roundw
        case rel =>
          refine ⟨k + 1, by go_num, by omega, fun i hi => ?_, HBL.out.trans (hb'.mono HBL.out.size)⟩
          by_cases e : i = k
          · subst e; exact HQ.out
          · exact HM.out i (by omega)
        case measure => simp [intOf]; omega
    · obtain rfl : k = n := by omega
      go_wp2_with fail
      go_ret
      exact ⟨ret_int (idxP_miss HM.out).symm, HBL.out⟩
theorem cont_up (p : Nat → Bool) (g : Nat) (lb : Array Value) (eg : ∀ args w, (callFunc g args).run Tryz.prog w = .ok (.enter g args) w) (ad : Option Addr) (n c : Nat) (f : Nat → Nat → Value) (b off : Nat) (w : World) (hr : Rw w ad n 3 f b off)
    (hp : ∀ W i, i < n → Below w.heap.size w W → Calls Tryz.prog g (#[.agg #[f i 0, f i 1, f i 2]] ++ lb) W fun e w' => e = .returned (.bool (p i)) ∧ Below W.heap.size W w') :
    Calls Tryz.prog 205 #[.slice ad n c, .func (.func g) #[] lb] w fun e w' => e = .returned (.bool (anyP p n)) ∧ Below w.heap.size w w' := by
  have HC := Lib.hid (idx_up p g lb eg ad n c f b off w hr hp)
  clear hr hp eg
  rw [← anyP_idx]
  generalize idxP p n = z at *
  go_enter Tryz.func205, Tryz.ntmps205
  go_wp2_with (go_at_call 255; refine HC.out.mono ?_; rintro e w' ⟨rfl, hb'⟩)
  go_ret
  exact ⟨rfl, hb'⟩
set_option maxRecDepth 20000 in
theorem idx_dp (p : Nat → Bool) (g : Nat) (lb : Array Value) (eg : ∀ args w, (callFunc g args).run Tryz.prog w = .ok (.enter g args) w) (ad : Option Addr) (n c : Nat) (f : Nat → Nat → Value) (b off : Nat) (w : World) (hr : Rw w ad n 2 f b off)
    (hp : ∀ W i, i < n → Below w.heap.size w W → Calls Tryz.prog g (#[.agg #[f i 0, f i 1]] ++ lb) W fun e w' => e = .returned (.bool (p i)) ∧ Below W.heap.size W w') :
    Calls Tryz.prog 256 #[.slice ad n c, .func (.func g) #[] lb] w fun e w' => e = .returned (.int .i64 (idxP p n)) ∧ Below w.heap.size w w' := by
  have HR := Lib.hid hr
  have HP := Lib.hid hp
  have hm := hr.max
  clear hr hp
  go_enter Tryz.func256, Tryz.ntmps256
  go_wp2_with fail
  go_loopw [5, 8] (fun _ v wr => ∃ k : Nat, v = .int .i64 (k : Int) ∧ k ≤ n ∧ (∀ i, i < k → p i = false) ∧ Below w.heap.size w wr) (fun _ v _ => n - (intOf v).toNat)
  case atStart => exact ⟨0, rfl, Nat.zero_le _, fun i hi => absurd hi (Nat.not_lt_zero _), Below.refl _ _⟩
  case round =>
    obtain ⟨k, rfl, hkn, hm0, hbl⟩ := hrel
    have HM := Lib.hid hm0
    have HBL := Lib.hid hbl
    clear hm0 hbl
    by_cases hlt : k < n
    · have HRR := Lib.hid (HR.out.below HBL.out)
      have hix := fun W => HRR.out.ix 43 134 Tryz.underlying43 (by kernel_rfl) (by omega) hlt c W
      have c0 : wr.cell? ⟨b, off + k * 2, none⟩ = some (f k 0) := HRR.out.cell k 0 hlt (by omega)
      have c1 : wr.cell? ⟨b, off + k * 2 + 1, none⟩ = some (f k 1) := HRR.out.cell k 1 hlt (by omega)
      have HCALL := Lib.hid (HP.out wr k hlt HBL.out)
      clear HRR
      cases hq : p k with
      | true =>
        have HQ := Lib.hid hq
        rw [Hid, hq] at HCALL
        clear hq
        go_wp2_with (go_at_fn g; refine HCALL.mono ?_; rintro e w' ⟨rfl, hb'⟩)
        go_ret
        exact ⟨ret_int (idxP_hit hlt HQ.out HM.out).symm, HBL.out.trans (hb'.mono HBL.out.size)⟩
      | false =>
        have HQ := Lib.hid hq
        rw [Hid, hq] at HCALL
        clear hq
        go_wp2_with (go_at_fn g; refine HCALL.mono ?_; rintro e w' ⟨rfl, hb'⟩)
        go_roundw
        case rel =>
          refine ⟨k + 1, by go_num, by omega, fun i hi => ?_, HBL.out.trans (hb'.mono HBL.out.size)⟩
          by_cases e : i = k
          · subst e; exact HQ.out
          · exact HM.out i (by omega)
        case measure => simp [intOf]; omega
    · obtain rfl : k = n := by omega
      go_wp2_with fail
      go_ret
      exact ⟨ret_int (idxP_miss HM.out).symm, HBL.out⟩
theorem cont_dp (p : Nat → Bool) (g : Nat) (lb : Array Value) (eg : ∀ args w, (callFunc g args).run Tryz.prog w = .ok (.enter g args) w) (ad : Option Addr) (n c : Nat) (f : Nat → Nat → Value) (b off : Nat) (w : World) (hr : Rw w ad n 2 f b off)
    (hp : ∀ W i, i < n → Below w.heap.size w W → Calls Tryz.prog g (#[.agg #[f i 0, f i 1]] ++ lb) W fun e w' => e = .returned (.bool (p i)) ∧ Below W.heap.size W w') :
    Calls Tryz.prog 207 #[.slice ad n c, .func (.func g) #[] lb] w fun e w' => e = .returned (.bool (anyP p n)) ∧ Below w.heap.size w w' := by
  have HC := Lib.hid (idx_dp p g lb eg ad n c f b off w hr hp)
  clear hr hp eg
  rw [← anyP_idx]
  generalize idxP p n = z at *
  go_enter Tryz.func207, Tryz.ntmps207
  go_wp2_with (go_at_call 256; refine HC.out.mono ?_; rintro e w' ⟨rfl, hb'⟩)
  go_ret
  exact ⟨rfl, hb'⟩
set_option maxRecDepth 20000 in
theorem idx_lc (p : Nat → Bool) (g : Nat) (lb : Array Value) (eg : ∀ args w, (callFunc g args).run Tryz.prog w = .ok (.enter g args) w) (ad : Option Addr) (n c : Nat) (f : Nat → Nat → Value) (b off : Nat) (w : World) (hr : Rw w ad n 16 f b off)
    (hp : ∀ W i, i < n → Below w.heap.size w W → Calls Tryz.prog g (#[.agg #[f i 0, f i 1, f i 2, f i 3, f i 4, f i 5, f i 6, f i 7, f i 8, f i 9, f i 10, f i 11, f i 12, f i 13, f i 14, f i 15]] ++ lb) W fun e w' => e = .returned (.bool (p i)) ∧ Below W.heap.size W w') :
    Calls Tryz.prog 143 #[.slice ad n c, .func (.func g) #[] lb] w fun e w' => e = .returned (.int .i64 (idxP p n)) ∧ Below w.heap.size w w' := by
  have HR := Lib.hid hr
  have HP := Lib.hid hp
  have hm := hr.max
  clear hr hp
  go_enter Tryz.func143, Tryz.ntmps143
  go_wp2_with fail
  go_loopw [5, 8] (fun _ v wr => ∃ k : Nat, v = .int .i64 (k : Int) ∧ k ≤ n ∧ (∀ i, i < k → p i = false) ∧ Below w.heap.size w wr) (fun _ v _ => n - (intOf v).toNat)
  case atStart => exact ⟨0, rfl, Nat.zero_le _, fun i hi => absurd hi (Nat.not_lt_zero _), Below.refl _ _⟩
  case round =>
    obtain ⟨k, rfl, hkn, hm0, hbl⟩ := hrel
    have HM := Lib.hid hm0
    have HBL := Lib.hid hbl
    clear hm0 hbl
    by_cases hlt : k < n
    · have HRR := Lib.hid (HR.out.below HBL.out)
      have hix := fun W => HRR.out.ix 23 46 Tryz.underlying23 (by kernel_rfl) (by omega) hlt c W
      have c0 : wr.cell? ⟨b, off + k * 16, none⟩ = some (f k 0) := HRR.out.cell k 0 hlt (by omega)
      have c1 : wr.cell? ⟨b, off + k * 16 + 1, none⟩ = some (f k 1) := HRR.out.cell k 1 hlt (by omega)
      have c2 : wr.cell? ⟨b, off + k * 16 + 2, none⟩ = some (f k 2) := HRR.out.cell k 2 hlt (by omega)
      have c3 : wr.cell? ⟨b, off + k * 16 + 3, none⟩ = some (f k 3) := HRR.out.cell k 3 hlt (by omega)
      have c4 : wr.cell? ⟨b, off + k * 16 + 4, none⟩ = some (f k 4) := HRR.out.cell k 4 hlt (by omega)
      have c5 : wr.cell? ⟨b, off + k * 16 + 5, none⟩ = some (f k 5) := HRR.out.cell k 5 hlt (by omega)
      have c6 : wr.cell? ⟨b, off + k * 16 + 6, none⟩ = some (f k 6) := HRR.out.cell k 6 hlt (by omega)
      have c7 : wr.cell? ⟨b, off + k * 16 + 7, none⟩ = some (f k 7) := HRR.out.cell k 7 hlt (by omega)
      have c8 : wr.cell? ⟨b, off + k * 16 + 8, none⟩ = some (f k 8) := HRR.out.cell k 8 hlt (by omega)
      have c9 : wr.cell? ⟨b, off + k * 16 + 9, none⟩ = some (f k 9) := HRR.out.cell k 9 hlt (by omega)
      have c10 : wr.cell? ⟨b, off + k * 16 + 10, none⟩ = some (f k 10) := HRR.out.cell k 10 hlt (by omega)
      have c11 : wr.cell? ⟨b, off + k * 16 + 11, none⟩ = some (f k 11) := HRR.out.cell k 11 hlt (by omega)
      have c12 : wr.cell? ⟨b, off + k * 16 + 12, none⟩ = some (f k 12) := HRR.out.cell k 12 hlt (by omega)
      have c13 : wr.cell? ⟨b, off + k * 16 + 13, none⟩ = some (f k 13) := HRR.out.cell k 13 hlt (by omega)
      have c14 : wr.cell? ⟨b, off + k * 16 + 14, none⟩ = some (f k 14) := HRR.out.cell k 14 hlt (by omega)
      have c15 : wr.cell? ⟨b, off + k * 16 + 15, none⟩ = some (f k 15) := HRR.out.cell k 15 hlt (by omega)
      have HCALL := Lib.hid (HP.out wr k hlt HBL.out)
      clear HRR
      cases hq : p k with
      | true =>
        have HQ := Lib.hid hq
        rw [Hid, hq] at HCALL
        clear hq
        go_wp2_with (go_at_fn g; refine HCALL.mono ?_; rintro e w' ⟨rfl, hb'⟩)
        go_ret
        exact ⟨ret_int (idxP_hit hlt HQ.out HM.out).symm, HBL.out.trans (hb'.mono HBL.out.size)⟩
      | false =>
        have HQ := Lib.hid hq
        rw [Hid, hq] at HCALL
        clear hq
        go_wp2_with (go_at_fn g; refine HCALL.mono ?_; rintro e w' ⟨rfl, hb'⟩)
        go_roundw
        case rel =>
          refine ⟨k + 1, by go_num, by omega, fun i hi => ?_, HBL.out.trans (hb'.mono HBL.out.size)⟩
          by_cases e : i = k
          · subst e; exact HQ.out
          · exact HM.out i (by omega)
        case measure => simp [intOf]; omega
    · obtain rfl : k = n := by omega
      go_wp2_with fail
      go_ret
      exact ⟨ret_int (idxP_miss HM.out).symm, HBL.out⟩
theorem cont_lc (p : Nat → Bool) (g : Nat) (lb : Array Value) (eg : ∀ args w, (callFunc g args).run Tryz.prog w = .ok (.enter g args) w) (ad : Option Addr) (n c : Nat) (f : Nat → Nat → Value) (b off : Nat) (w : World) (hr : Rw w ad n 16 f b off)
    (hp : ∀ W i, i < n → Below w.heap.size w W → Calls Tryz.prog g (#[.agg #[f i 0, f i 1, f i 2, f i 3, f i 4, f i 5, f i 6, f i 7, f i 8, f i 9, f i 10, f i 11, f i 12, f i 13, f i 14, f i 15]] ++ lb) W fun e w' => e = .returned (.bool (p i)) ∧ Below W.heap.size W w') :
    Calls Tryz.prog 93 #[.slice ad n c, .func (.func g) #[] lb] w fun e w' => e = .returned (.bool (anyP p n)) ∧ Below w.heap.size w w' := by
  have HC := Lib.hid (idx_lc p g lb eg ad n c f b off w hr hp)
  clear hr hp eg
  rw [← anyP_idx]
  generalize idxP p n = z at *
  go_enter Tryz.func93, Tryz.ntmps93
  go_wp2_with (go_at_call 143; refine HC.out.mono ?_; rintro e w' ⟨rfl, hb'⟩)
  go_ret
  exact ⟨rfl, hb'⟩
set_option maxRecDepth 20000 in
theorem idx_al (p : Nat → Bool) (g : Nat) (lb : Array Value) (eg : ∀ args w, (callFunc g args).run Tryz.prog w = .ok (.enter g args) w) (ad : Option Addr) (n c : Nat) (f : Nat → Nat → Value) (b off : Nat) (w : World) (hr : Rw w ad n 2 f b off)
    (hp : ∀ W i, i < n → Below w.heap.size w W → Calls Tryz.prog g (#[.agg #[f i 0, f i 1]] ++ lb) W fun e w' => e = .returned (.bool (p i)) ∧ Below W.heap.size W w') :
    Calls Tryz.prog 166 #[.slice ad n c, .func (.func g) #[] lb] w fun e w' => e = .returned (.int .i64 (idxP p n)) ∧ Below w.heap.size w w' := by
  have HR := Lib.hid hr
  have HP := Lib.hid hp
  have hm := hr.max
  clear hr hp
  go_enter Tryz.func166, Tryz.ntmps166
  go_wp2_with fail
  go_loopw [5, 8] (fun _ v wr => ∃ k : Nat, v = .int .i64 (k : Int) ∧ k ≤ n ∧ (∀ i, i < k → p i = false) ∧ Below w.heap.size w wr) (fun _ v _ => n - (intOf v).toNat)
  case atStart => exact ⟨0, rfl, Nat.zero_le _, fun i hi => absurd hi (Nat.not_lt_zero _), Below.refl _ _⟩
  case round =>
    obtain ⟨k, rfl, hkn, hm0, hbl⟩ := hrel
    have HM := Lib.hid hm0
    have HBL := Lib.hid hbl
    clear hm0 hbl
    by_cases hlt : k < n
    · have HRR := Lib.hid (HR.out.below HBL.out)
      have hix := fun W => HRR.out.ix 24 61 Tryz.underlying24 (by kernel_rfl) (by omega) hlt c W
      have c0 : wr.cell? ⟨b, off + k * 2, none⟩ = some (f k 0) := HRR.out.cell k 0 hlt (by omega)
      have c1 : wr.cell? ⟨b, off + k * 2 + 1, none⟩ = some (f k 1) := HRR.out.cell k 1 hlt (by omega)
      have HCALL := Lib.hid (HP.out wr k hlt HBL.out)
      clear HRR
      cases hq : p k with
      | true =>
        have HQ := Lib.hid hq
        rw [Hid, hq] at HCALL
        clear hq
        go_wp2_with (go_at_fn g; refine HCALL.mono ?_; rintro e w' ⟨rfl, hb'⟩)
        go_ret
        exact ⟨ret_int (idxP_hit hlt HQ.out HM.out).symm, HBL.out.trans (hb'.mono HBL.out.size)⟩
      | false =>
        have HQ := Lib.hid hq
        rw [Hid, hq] at HCALL
        clear hq
        go_wp2_with (go_at_fn g; refine HCALL.mono ?_; rintro e w' ⟨rfl, hb'⟩)
        go_roundw
        case rel =>
          refine ⟨k + 1, by go_num, by omega, fun i hi => ?_, HBL.out.trans (hb'.mono HBL.out.size)⟩
          by_cases e : i = k
          · subst e; exact HQ.out
          · exact HM.out i (by omega)
        case measure => simp [intOf]; omega
    · obtain rfl : k = n := by omega
      go_wp2_with fail
      go_ret
      exact ⟨ret_int (idxP_miss HM.out).symm, HBL.out⟩
theorem cont_al (p : Nat → Bool) (g : Nat) (lb : Array Value) (eg : ∀ args w, (callFunc g args).run Tryz.prog w = .ok (.enter g args) w) (ad : Option Addr) (n c : Nat) (f : Nat → Nat → Value) (b off : Nat) (w : World) (hr : Rw w ad n 2 f b off)
    (hp : ∀ W i, i < n → Below w.heap.size w W → Calls Tryz.prog g (#[.agg #[f i 0, f i 1]] ++ lb) W fun e w' => e = .returned (.bool (p i)) ∧ Below W.heap.size W w') :
    Calls Tryz.prog 100 #[.slice ad n c, .func (.func g) #[] lb] w fun e w' => e = .returned (.bool (anyP p n)) ∧ Below w.heap.size w w' := by
  have HC := Lib.hid (idx_al p g lb eg ad n c f b off w hr hp)
  clear hr hp eg
  rw [← anyP_idx]
  generalize idxP p n = z at *
  go_enter Tryz.func100, Tryz.ntmps100
  go_wp2_with (go_at_call 166; refine HC.out.mono ?_; rintro e w' ⟨rfl, hb'⟩)
  go_ret
  exact ⟨rfl, hb'⟩
set_option maxRecDepth 20000 in
theorem idx_ne (p : Nat → Bool) (g : Nat) (lb : Array Value) (eg : ∀ args w, (callFunc g args).run Tryz.prog w = .ok (.enter g args) w) (ad : Option Addr) (n c : Nat) (f : Nat → Nat → Value) (b off : Nat) (w : World) (hr : Rw w ad n 3 f b off)
    (hp : ∀ W i, i < n → Below w.heap.size w W → Calls Tryz.prog g (#[.agg #[f i 0, f i 1, f i 2]] ++ lb) W fun e w' => e = .returned (.bool (p i)) ∧ Below W.heap.size W w') :
    Calls Tryz.prog 169 #[.slice ad n c, .func (.func g) #[] lb] w fun e w' => e = .returned (.int .i64 (idxP p n)) ∧ Below w.heap.size w w' := by
  have HR := Lib.hid hr
  have HP := Lib.hid hp
  have hm := hr.max
  clear hr hp
  go_enter Tryz.func169, Tryz.ntmps169
  go_wp2_with fail
  go_loopw [5, 8] (fun _ v wr => ∃ k : Nat, v = .int .i64 (k : Int) ∧ k ≤ n ∧ (∀ i, i < k → p i = false) ∧ Below w.heap.size w wr) (fun _ v _ => n - (intOf v).toNat)
  case atStart => exact ⟨0, rfl, Nat.zero_le _, fun i hi => absurd hi (Nat.not_lt_zero _), Below.refl _ _⟩
  case round =>
    obtain ⟨k, rfl, hkn, hm0, hbl⟩ := hrel
    have HM := Lib.hid hm0
    have HBL := Lib.hid hbl
    clear hm0 hbl
    by_cases hlt : k < n
    · have HRR := Lib.hid (HR.out.below HBL.out)
      have hix := fun W => HRR.out.ix 25 58 Tryz.underlying25 (by kernel_rfl) (by omega) hlt c W
      have c0 : wr.cell? ⟨b, off + k * 3, none⟩ = some (f k 0) := HRR.out.cell k 0 hlt (by omega)
      have c1 : wr.cell? ⟨b, off + k * 3 + 1, none⟩ = some (f k 1) := HRR.out.cell k 1 hlt (by omega)
      have c2 : wr.cell? ⟨b, off + k * 3 + 2, none⟩ = some (f k 2) := HRR.out.cell k 2 hlt (by omega)
      have HCALL := Lib.hid (HP.out wr k hlt HBL.out)
      clear HRR
      cases hq : p k with
      | true =>
        have HQ := Lib.hid hq
        rw [Hid, hq] at HCALL
        clear hq
        go_wp2_with (go_at_fn g; refine HCALL.mono ?_; rintro e w' ⟨rfl, hb'⟩)
        go_ret
        exact ⟨ret_int (idxP_hit hlt HQ.out HM.out).symm, HBL.out.trans (hb'.mono HBL.out.size)⟩
      | false =>
        have HQ := Lib.hid hq
        rw [Hid, hq] at HCALL
        clear hq
        go_wp2_with (go_at_fn g; refine HCALL.mono ?_; rintro e w' ⟨rfl, hb'⟩)
        go_roundw
        case rel =>
          refine ⟨k + 1, by go_num, by omega, fun i hi => ?_, HBL.out.trans (hb'.mono HBL.out.size)⟩
          by_cases e : i = k
          · subst e; exact HQ.out
          · exact HM.out i (by omega)
        case measure => simp [intOf]; omega
    · obtain rfl : k = n := by omega
      go_wp2_with fail
      go_ret
      exact ⟨ret_int (idxP_miss HM.out).symm, HBL.out⟩
theorem cont_ne (p : Nat → Bool) (g : Nat) (lb : Array Value) (eg : ∀ args w, (callFunc g args).run Tryz.prog w = .ok (.enter g args) w) (ad : Option Addr) (n c : Nat) (f : Nat → Nat → Value) (b off : Nat) (w : World) (hr : Rw w ad n 3 f b off)
    (hp : ∀ W i, i < n → Below w.heap.size w W → Calls Tryz.prog g (#[.agg #[f i 0, f i 1, f i 2]] ++ lb) W fun e w' => e = .returned (.bool (p i)) ∧ Below W.heap.size W w') :
    Calls Tryz.prog 105 #[.slice ad n c, .func (.func g) #[] lb] w fun e w' => e = .returned (.bool (anyP p n)) ∧ Below w.heap.size w w' := by
  have HC := Lib.hid (idx_ne p g lb eg ad n c f b off w hr hp)
  clear hr hp eg
  rw [← anyP_idx]
  generalize idxP p n = z at *
  go_enter Tryz.func105, Tryz.ntmps105
  go_wp2_with (go_at_call 169; refine HC.out.mono ?_; rintro e w' ⟨rfl, hb'⟩)
  go_ret
  exact ⟨rfl, hb'⟩
end Go.Proofs.YtmleeodfmmpdgaaGreatDoor
namespace Go.Proofs.YtmleeodfmmpdgaaGreatDoor
open Go.RowKit
def SzS (v : Value) (s : ByteArray) : Prop := v = .string s ∧ s.size ≤ 140737488351232
def SzI (v : Value) (z : Int) : Prop := v = .int .i64 z ∧ -9223372036854775808 ≤ z ∧ z ≤ 9223372036854775807
def OneS (_ : World) (x : Nat → Value) (s : ByteArray) : Prop := SzS (x 0) s
structure Lp where
  style : ByteArray
  two : ByteArray
  start : ByteArray
  mid : ByteArray
  fin : ByteArray
deriving Inhabited
structure LpC (_ : World) (x : Nat → Value) (y : Lp) : Prop where
  c0 : SzS (x 0) y.style
  c1 : SzS (x 1) y.two
  c2 : SzS (x 2) y.start
  c3 : SzS (x 3) y.mid
  c4 : SzS (x 4) y.fin
theorem LpC.at {w w' : World} {x : Nat → Value} {y : Lp} (h : LpC w x y) : LpC w' x y := ⟨h.c0, h.c1, h.c2, h.c3, h.c4⟩
structure Up where
  unit : ByteArray
  cls : ByteArray
  pat : ByteArray
deriving Inhabited
structure UpC (_ : World) (x : Nat → Value) (y : Up) : Prop where
  c0 : SzS (x 0) y.unit
  c1 : SzS (x 1) y.cls
  c2 : SzS (x 2) y.pat
theorem UpC.at {w w' : World} {x : Nat → Value} {y : Up} (h : UpC w x y) : UpC w' x y := ⟨h.c0, h.c1, h.c2⟩
structure Dp where
  skel : ByteArray
  pat : ByteArray
deriving Inhabited
structure DpC (_ : World) (x : Nat → Value) (y : Dp) : Prop where
  c0 : SzS (x 0) y.skel
  c1 : SzS (x 1) y.pat
theorem DpC.at {w w' : World} {x : Nat → Value} {y : Dp} (h : DpC w x y) : DpC w' x y := ⟨h.c0, h.c1⟩
structure Al where
  fro : ByteArray
  dst : ByteArray
deriving Inhabited
structure AlC (_ : World) (x : Nat → Value) (y : Al) : Prop where
  c0 : SzS (x 0) y.fro
  c1 : SzS (x 1) y.dst
theorem AlC.at {w w' : World} {x : Nat → Value} {y : Al} (h : AlC w x y) : AlC w' x y := ⟨h.c0, h.c1⟩
structure Ne where
  fro : ByteArray
  dst : ByteArray
  cost : Int
deriving Inhabited
structure NeC (_ : World) (x : Nat → Value) (y : Ne) : Prop where
  c0 : SzS (x 0) y.fro
  c1 : SzS (x 1) y.dst
  c2 : SzI (x 2) y.cost
theorem NeC.at {w w' : World} {x : Nat → Value} {y : Ne} (h : NeC w x y) : NeC w' x y := ⟨h.c0, h.c1, h.c2⟩
structure Lc where
  tag : ByteArray
  par : ByteArray
  dir : ByteArray
  card : List (ByteArray × List (List Rel))
  ord : List (ByteArray × List (List Rel))
  dec : ByteArray
  grp : ByteArray
  mi : ByteArray
  pct : ByteArray
  pri : Int
  sec : Int
  lists : List Lp
  units : List Up
  dates : List Dp
  months : List ByteArray
  days : List ByteArray
deriving Inhabited
structure LcC (w : World) (x : Nat → Value) (y : Lc) : Prop where
  c0 : SzS (x 0) y.tag
  c1 : SzS (x 1) y.par
  c2 : SzS (x 2) y.dir
  c3 : RulesAt w (x 3) y.card
  c4 : RulesAt w (x 4) y.ord
  c5 : SzS (x 5) y.dec
  c6 : SzS (x 6) y.grp
  c7 : SzS (x 7) y.mi
  c8 : SzS (x 8) y.pct
  c9 : SzI (x 9) y.pri
  c10 : SzI (x 10) y.sec
  c11 : RowsOf 5 LpC w (x 11) y.lists
  c12 : RowsOf 3 UpC w (x 12) y.units
  c13 : RowsOf 2 DpC w (x 13) y.dates
  c14 : RowsOf 1 OneS w (x 14) y.months
  c15 : RowsOf 1 OneS w (x 15) y.days
theorem LcC.below {w w' : World} {x : Nat → Value} {y : Lc} (h : LcC w x y) (hb : Below w.heap.size w w') : LcC w' x y :=
  ⟨h.c0, h.c1, h.c2, h.c3.below hb, h.c4.below hb, h.c5, h.c6, h.c7, h.c8, h.c9, h.c10, h.c11.map hb fun _ _ h => ⟨h.c0, h.c1, h.c2, h.c3, h.c4⟩, h.c12.map hb fun _ _ h => ⟨h.c0, h.c1, h.c2⟩, h.c13.map hb fun _ _ h => ⟨h.c0, h.c1⟩, h.c14.map hb fun _ _ h => h, h.c15.map hb fun _ _ h => h⟩
structure Tb where
  locs : List Lc
  als : List Al
  near : List Ne
deriving Inhabited
structure TbC (w : World) (x : Nat → Value) (y : Tb) : Prop where
  c0 : RowsOf 16 LcC w (x 0) y.locs
  c1 : RowsOf 2 AlC w (x 1) y.als
  c2 : RowsOf 3 NeC w (x 2) y.near
theorem TbC.below {w w' : World} {x : Nat → Value} {y : Tb} (h : TbC w x y) (hb : Below w.heap.size w w') : TbC w' x y :=
  ⟨h.c0.map hb fun _ _ h => h.below hb, h.c1.map hb fun _ _ h => ⟨h.c0, h.c1⟩, h.c2.map hb fun _ _ h => ⟨h.c0, h.c1, h.c2⟩⟩
theorem RowsOf.opn {α : Type} {k : Nat} {C : World → (Nat → Value) → α → Prop} {w : World} {v : Value} {l : List α} (h : RowsOf k C w v l) :
    ∃ ad c f b off, v = .slice ad l.length c ∧ Rw w ad l.length k f b off ∧ (ad = none → c = 0) ∧ l.length ≤ c ∧ l.length ≤ 140737488351232 ∧ ∀ i (hi : i < l.length), C w (f i) l[i] := by
  obtain ⟨ad, c, f, b, off, h1, h2, h3, h4, h5, h6⟩ := h
  exact ⟨ad, c, f, b, off, h1, h2, h3, h4, h5, fun i hi => h6 i _ (List.getElem?_eq_getElem hi)⟩
theorem RowsOf.nil {α : Type} (k : Nat) (C : World → (Nat → Value) → α → Prop) (w : World) : RowsOf k C w (.slice none 0 0) ([] : List α) :=
  ⟨none, 0, fun _ _ => undef, 0, 0, rfl, ⟨Nat.zero_le _, fun h => absurd rfl h, fun i j hi => absurd hi (Nat.not_lt_zero _)⟩, fun _ => rfl, Nat.le_refl _, Nat.zero_le _, fun i x hx => by simp at hx⟩

def Sub (w w' : World) : Prop := ∀ (p : Addr) (v : Value), w.cell? p = some v → w'.cell? p = some v
theorem Sub.trans {a b c : World} (h : Sub a b) (k : Sub b c) : Sub a c := fun p v hv => k p v (h p v hv)
theorem Rw.sub {w w' : World} {ad : Option Addr} {n k : Nat} {f b off} (h : Rw w ad n k f b off) (hs : Sub w w') : Rw w' ad n k f b off :=
  ⟨h.max, h.adr, fun i j hi hj => hs _ _ (h.cell i j hi hj)⟩
theorem RowsOf.sub {α : Type} {k : Nat} {C : World → (Nat → Value) → α → Prop} {w w' : World} {v : Value} {l : List α} (h : RowsOf k C w v l) (hs : Sub w w') (hC : ∀ x a, C w x a → C w' x a) : RowsOf k C w' v l := by
  obtain ⟨ad, c, f, b, off, h1, h2, h3, h4, h5, h6⟩ := h
  exact ⟨ad, c, f, b, off, h1, h2.sub hs, h3, h4, h5, fun i x hx => hC _ _ (h6 i x hx)⟩
theorem RelC.sub {w w' : World} {x : Nat → Value} {r : Rel} (h : RelC w x r) (hs : Sub w w') : RelC w' x r := ⟨h.1, h.2.1, h.2.2.1, h.2.2.2.sub hs fun _ _ h => h⟩
theorem RelsC.sub {w w' : World} {x : Nat → Value} {l : List Rel} (h : RelsC w x l) (hs : Sub w w') : RelsC w' x l := RowsOf.sub h hs fun _ _ h => h.sub hs
theorem CondAt.sub {w w' : World} {v : Value} {c : List (List Rel)} (h : CondAt w v c) (hs : Sub w w') : CondAt w' v c := RowsOf.sub h hs fun _ _ h => h.sub hs
theorem RuleC.sub {w w' : World} {x : Nat → Value} {r : ByteArray × List (List Rel)} (h : RuleC w x r) (hs : Sub w w') : RuleC w' x r := ⟨h.1, h.2.sub hs⟩
theorem RulesAt.sub {w w' : World} {v : Value} {l : List (ByteArray × List (List Rel))} (h : RulesAt w v l) (hs : Sub w w') : RulesAt w' v l := RowsOf.sub h hs fun _ _ h => h.sub hs
theorem LcC.sub {w w' : World} {x : Nat → Value} {y : Lc} (h : LcC w x y) (hs : Sub w w') : LcC w' x y :=
  ⟨h.c0, h.c1, h.c2, h.c3.sub hs, h.c4.sub hs, h.c5, h.c6, h.c7, h.c8, h.c9, h.c10, h.c11.sub hs fun _ _ h => h.at, h.c12.sub hs fun _ _ h => h.at, h.c13.sub hs fun _ _ h => h.at, h.c14.sub hs fun _ _ h => h, h.c15.sub hs fun _ _ h => h⟩
theorem TbC.sub {w w' : World} {x : Nat → Value} {y : Tb} (h : TbC w x y) (hs : Sub w w') : TbC w' x y :=
  ⟨h.c0.sub hs fun _ _ h => h.sub hs, h.c1.sub hs fun _ _ h => h.at, h.c2.sub hs fun _ _ h => h.at⟩

def hide (P : Nat → Bool) (w : World) : World := { w with heap := w.heap.mapIdx fun i o => if P i then .cells #[] 0 else o }
theorem hide_get (P : Nat → Bool) (w : World) (k : Nat) : (hide P w).heap[k]? = (w.heap[k]?).map fun o => if P k then .cells #[] 0 else o := by simp [hide]
theorem hide_not {P : Nat → Bool} {w : World} {k : Nat} (h : P k = false) : (hide P w).heap[k]? = w.heap[k]? := by
  rw [hide_get, h]
  simp
theorem hide_cell {P : Nat → Bool} {w : World} {p : Addr} {v : Value} (h : (hide P w).cell? p = some v) : P p.block = false ∧ w.cell? p = some v := by
  cases hp : P p.block with
  | false => exact ⟨rfl, by rw [← World.cell?_of_block (hide_not hp)]; exact h⟩
  | true =>
    exfalso
    have hg := hide_get P w p.block
    rw [hp] at hg
    unfold World.cell? at h
    rw [hg] at h
    cases hq : w.heap[p.block]? <;> simp [hq] at h
theorem sub_hide (P : Nat → Bool) (w : World) : Sub (hide P w) w := fun _ _ h => (hide_cell h).2
def oneP (b : Nat) (k : Nat) : Bool := decide (k = b)
structure Kp (P : Nat → Bool) (w w' : World) : Prop where
  os : w'.os = w.os
  tape : w'.tape = w.tape
  output : w'.output = w.output
  size : w.heap.size ≤ w'.heap.size
  block : ∀ k, k < w.heap.size → P k = false → w'.heap[k]? = w.heap[k]?
theorem Kp.refl (P : Nat → Bool) (w : World) : Kp P w w := ⟨rfl, rfl, rfl, Nat.le_refl _, fun _ _ _ => rfl⟩
theorem Kp.trans {P : Nat → Bool} {a b c : World} (h : Kp P a b) (k : Kp P b c) : Kp P a c :=
  ⟨k.os.trans h.os, k.tape.trans h.tape, k.output.trans h.output, Nat.le_trans h.size k.size, fun i hi hp => (k.block i (Nat.lt_of_lt_of_le hi h.size) hp).trans (h.block i hi hp)⟩
theorem Kp.le {P Q : Nat → Bool} {w w' : World} (h : Kp P w w') (hq : ∀ k, k < w.heap.size → P k = true → Q k = true) : Kp Q w w' :=
  ⟨h.os, h.tape, h.output, h.size, fun k hk hp => h.block k hk (by
    cases hh : P k with
    | false => rfl
    | true => rw [hq k hk hh] at hp; cases hp)⟩
theorem kp_below {P : Nat → Bool} {w w' : World} (h : Below w.heap.size w w') : Kp P w w' := ⟨h.os, h.tape, h.output, h.size, fun k hk _ => h.block k hk⟩
theorem Kp.below {P : Nat → Bool} {w w' : World} (h : Kp P w w') (base : Nat) (hb : base ≤ w.heap.size) (hp : ∀ k, k < base → P k = false) : Below base w w' :=
  ⟨h.os, h.tape, h.output, h.size, fun k hk => h.block k (by omega) (hp k hk)⟩
theorem Kp.alloc {P : Nat → Bool} {a w : World} (h : Kp P a w) (o : Obj) : Kp P a (w.alloc o) :=
  h.trans ⟨rfl, rfl, rfl, by simp, fun k hk _ => Below.heap_alloc _ _ _ hk⟩
theorem Kp.drew {P : Nat → Bool} {a w : World} (h : Kp P a w) : Kp P a w.drew := ⟨h.os, h.tape, h.output, h.size, h.block⟩
theorem Kp.set {P : Nat → Bool} {a w : World} (h : Kp P a w) {p : Addr} (hp : P p.block = true) (u : Value) : Kp P a (w.setCell p u) :=
  h.trans ⟨rfl, rfl, rfl, by simp [World.setCell], fun k _ hk => Below.heap_setCell _ _ _ _ (by rintro rfl; rw [hp] at hk; cases hk)⟩
theorem Kp.grown {P : Nat → Bool} {a w w' : World} (h : Kp P a w) {row : Option Nat} (hg : w.grownBy w' row) (hr : ∀ k, row = some k → a.heap.size ≤ k ∨ P k = true) : Kp P a w' :=
  ⟨hg.os.trans h.os, hg.tape.trans h.tape, hg.output.trans h.output, Nat.le_trans h.size hg.size, fun k hk hp => (hg.block k (Nat.lt_of_lt_of_le hk h.size) (fun e => by
    rcases hr k e.symm with h1 | h1
    · omega
    · rw [h1] at hp; cases hp)).trans (h.block k hk hp)⟩
theorem Kp.then {P : Nat → Bool} {a w w' : World} (h : Kp P a w) {Q : Nat → Bool} (k : Kp Q w w') (hq : ∀ i, i < a.heap.size → Q i = true → P i = true) : Kp P a w' :=
  ⟨k.os.trans h.os, k.tape.trans h.tape, k.output.trans h.output, Nat.le_trans h.size k.size, fun i hi hp => (k.block i (Nat.lt_of_lt_of_le hi h.size) (by
    cases hh : Q i with
    | false => rfl
    | true => rw [hq i hi hh] at hp; cases hp)).trans (h.block i hi hp)⟩
theorem oneP_self (b : Nat) : oneP b b = true := decide_eq_true rfl
theorem oneP_ne {b k : Nat} (h : k ≠ b) : oneP b k = false := decide_eq_false h

def Cel (w : World) (b : Nat) (T : TypeId) (cs : List Value) : Prop := w.heap[b]? = some (.cells cs.toArray T (0, 0))
theorem Cel.lt {w : World} {b : Nat} {T : TypeId} {cs : List Value} (h : Cel w b T cs) : b < w.heap.size := (Array.getElem?_eq_some_iff.1 h).1
theorem Cel.cell {w : World} {b : Nat} {T : TypeId} {cs : List Value} (h : Cel w b T cs) (j : Nat) : w.cell? ⟨b, j, none⟩ = cs[j]? := by
  unfold Cel at h
  simp [World.cell?, h]
theorem Cel.frz {w : World} {b : Nat} {T : TypeId} {cs : List Value} (h : Cel w b T cs) (j : Nat) : w.frozen? ⟨b, j, none⟩ = false := by
  unfold Cel at h
  simp [World.frozen?, h]
theorem Cel.set {w : World} {b : Nat} {T : TypeId} {cs : List Value} (h : Cel w b T cs) (j : Nat) (v : Value) : Cel (w.setCell ⟨b, j, none⟩ v) b T (cs.set j v) := by
  unfold Cel at h ⊢
  simp [World.setCell, Array.getElem?_modify, h]
theorem Cel.kp {w w' : World} {b : Nat} {T : TypeId} {cs : List Value} (h : Cel w b T cs) {P : Nat → Bool} (k : Kp P w w') (hp : P b = false) : Cel w' b T cs := (k.block b h.lt hp).trans h
theorem Cel.below {w w' : World} {b : Nat} {T : TypeId} {cs : List Value} (h : Cel w b T cs) (k : Below w.heap.size w w') : Cel w' b T cs := (k.block b h.lt).trans h
theorem Cel.new (w : World) (cs : List Value) (T : TypeId) : Cel (w.alloc (.cells cs.toArray T)) w.heap.size T cs := by
  show (w.heap.push _)[w.heap.size]? = _
  simp
end Go.Proofs.YtmleeodfmmpdgaaGreatDoor
namespace Go.Proofs.YtmleeodfmmpdgaaGreatDoor
def blankB (c : UInt8) : Bool := c == 32 || c == 9 || c == 10
def lowB (c : UInt8) : Bool := decide (97 ≤ c.toNat) && decide (c.toNat ≤ 122)
def digB (c : UInt8) : Bool := decide (48 ≤ c.toNat) && decide (c.toNat ≤ 57)
def tokC : List UInt8 → List UInt8
  | [] => []
  | c :: r =>
    if lowB c then (c :: r).takeWhile lowB
    else if digB c then (c :: r).takeWhile digB
    else if c = 46 ∧ r.head? = some 46 then [46, 46]
    else if c = 33 ∧ r.head? = some 61 then [33, 61]
    else if c = 37 ∨ c = 61 ∨ c = 44 then [c]
    else []
def skipI (s : List UInt8) (i : Nat) : Nat := i + ((s.drop i).takeWhile blankB).length
def tokI (s : List UInt8) (i : Nat) : List UInt8 := tokC (s.drop (skipI s i))
def decC (l : List UInt8) : Nat := l.foldl (fun n c => 10 * n + (c.toNat - 48)) 0
def numC : List UInt8 → Bool
  | [] => false
  | c :: r => digB c && decide (r.length ≤ 2) && (r.isEmpty || !(c == 48))
structure CP where
  pos : Nat
  rel : Nat
  err : Int
deriving DecidableEq
def CP.skip (s : List UInt8) (p : CP) : CP := { p with pos := skipI s p.pos }
def CP.fail (e : Int) (p : CP) : CP := if p.err = 0 then { p with err := e } else p
def CP.adv (n : Nat) (p : CP) : CP := { p with pos := p.pos + n }
def CP.take (s : List UInt8) (l : List ByteArray) (p : CP) : List UInt8 × CP :=
  let t := tokI s p.pos
  let q := if l.contains (bs t) then p.skip s else (p.skip s).fail 3
  if q.err = 0 then (t, q.adv t.length) else ([], q)
def CP.next (s t : List UInt8) (p : CP) : Bool × CP :=
  if p.err = 0 then (if tokI s p.pos = t then (true, (p.skip s).adv t.length) else (false, p.skip s)) else (false, p)
def CP.number (s : List UInt8) (chk : Int → Int) (p : CP) : Int × CP :=
  let t := tokI s p.pos
  let q := if numC t then p.skip s else (p.skip s).fail 3
  if q.err = 0 then (if chk (decC t) = 0 then ((decC t : Int), q.adv t.length) else (0, q.fail (chk (decC t)))) else (0, q)
def chk1 (op : Int) (count : Nat) (n : Int) : Int := if greatV op < n then 2 else if 4 ≤ count then 6 else 0
def chk2 (op x n : Int) : Int := if greatV op < n ∨ n < x then 2 else 0
def chk3 (op n : Int) : Int := if permV op n then 0 else 2
def CP.span (s : List UInt8) (op : Int) (count : Nat) (p : CP) : (Int × Int) × CP :=
  let a := CP.number s (chk1 op count) p
  let m := CP.next s [46, 46] a.2
  if m.1 then (let b := CP.number s (chk2 op a.1) m.2; ((a.1, b.1), b.2)) else ((a.1, a.1), m.2)
structure RS where
  l : List Tz
  pos : Int
  e : Int
def RS.peek (E : Int) (r : RS) : Tz := r.l.headD (0, [], E)
def RS.failAt (p e : Int) (r : RS) : RS := if r.e = 0 then { r with pos := p, e := e } else r
def RS.fail (E e : Int) (r : RS) : RS := r.failAt (r.peek E).2.2 e
def RS.drop (r : RS) : RS := { r with l := r.l.tail }
def RS.take (E k : Int) (r : RS) : List UInt8 × RS :=
  let q := if (r.peek E).1 = k then r else r.fail E 3
  if q.e = 0 then ((r.peek E).2.1, q.drop) else ([], q)
theorem RS.fail_e (E : Int) {e : Int} (he : e ≠ 0) (r : RS) : (r.fail E e).e ≠ 0 := by
  unfold RS.fail RS.failAt
  by_cases h : r.e = 0
  · rw [if_pos h]; exact he
  · rw [if_neg h]; exact h
theorem RS.take_ok {E k : Int} {r : RS} (h : (r.peek E).1 = k) (he : r.e = 0) : r.take E k = ((r.peek E).2.1, r.drop) := by
  unfold RS.take
  simp only [if_pos h, if_pos he]
theorem RS.take_err {E k : Int} {r : RS} (h : (r.peek E).1 = k) (he : r.e ≠ 0) : r.take E k = ([], r) := by
  unfold RS.take
  simp only [if_pos h, if_neg he]
theorem RS.take_no {E k : Int} {r : RS} (h : (r.peek E).1 ≠ k) : r.take E k = ([], r.fail E 3) := by
  unfold RS.take
  simp only [if_neg h, if_neg (RS.fail_e E (e := 3) (by decide) r)]
def RS.is (E k : Int) (s : List UInt8) (r : RS) : Bool := decide (r.e = 0) && (decide ((r.peek E).1 = k) && decide ((r.peek E).2.1 = s))
def RS.mark (E : Int) (s : List UInt8) (r : RS) : RS := ((if r.is E 3 s then r else r.fail E 3).take E 3).2
def RS.word (E : Int) (r : RS) : List UInt8 × RS := r.take E 1
def RS.text (E : Int) (r : RS) : List UInt8 × RS := r.take E 2
def RS.texts (E : Int) : Nat → List ByteArray → RS → List ByteArray × RS
  | 0, out, r => (out, r)
  | n + 1, out, r => RS.texts E n (out ++ [bs (r.text E).1]) (r.text E).2
def RS.texts0 (E : Int) (n : Nat) (r : RS) : List ByteArray × RS := RS.texts E n [] r
def RS.one (E : Int) (l : List ByteArray) (r : RS) : List UInt8 × RS :=
  (if decide ((r.peek E).1 = 1) && !l.contains (bs (r.peek E).2.1) then r.fail E 10 else r).word E
def RS.once (at_ : Int) (b : Bool) (r : RS) : RS := if b then r.failAt at_ 9 else r
end Go.Proofs.YtmleeodfmmpdgaaGreatDoor
