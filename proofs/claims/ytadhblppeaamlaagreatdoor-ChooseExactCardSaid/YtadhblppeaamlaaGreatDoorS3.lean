/- Walks: slices.IndexFunc and ContainsFunc at structs, Index and Contains at integers and strings. -/
import Derived.Test.YtadhblppeaamlaaGreatDoorS2
import Derived.Deep.DrawnRows
import Derived.Shelf.Abstract
namespace Go.Proofs.YtadhblppeaamlaaGreatDoor
open Go.RowKit
attribute [local go_sem] Ext.cell Ext.frozen
attribute [local go_sem ↓] Go.wp_at_zero Go.wp_at_succ

/-- the first number below n of which p holds, or -1 -/
def idxP (p : Nat → Bool) (n : Nat) : Int := match (List.range n).find? p with
  | some i => (i : Int)
  | none => -1
/-- whether p holds of a number below n -/
def anyP (p : Nat → Bool) (n : Nat) : Bool := (List.range n).any p
theorem idxP_hit {p : Nat → Bool} {n k : Nat} (hk : k < n) (hp : p k = true) (h : ∀ i, i < k → p i = false) : idxP p n = k := by
  have e : List.range n = List.range k ++ k :: List.range' (k + 1) (n - k - 1) := by
    rw [List.range_eq_range', List.range_eq_range', ← List.range'_succ, show n - k - 1 + 1 = n - k from by omega]
    have := List.range'_append (s := 0) (m := k) (n := n - k) (step := 1)
    rw [show 0 + 1 * k = k from by omega, show k + (n - k) = n from by omega] at this
    exact this.symm
  have h0 : (List.range k).find? p = none := List.find?_eq_none.2 fun i hi => by rw [h i (List.mem_range.1 hi)]; simp
  unfold idxP
  rw [e, List.find?_append, h0, List.find?_cons_of_pos hp]
  rfl
theorem idxP_miss {p : Nat → Bool} {n : Nat} (h : ∀ i, i < n → p i = false) : idxP p n = -1 := by
  have h0 : (List.range n).find? p = none := List.find?_eq_none.2 fun i hi => by rw [h i (List.mem_range.1 hi)]; simp
  unfold idxP
  rw [h0]
theorem idxP_cases (p : Nat → Bool) (n : Nat) : (∃ k, k < n ∧ p k = true ∧ (∀ i, i < k → p i = false) ∧ idxP p n = k) ∨ (∀ i, i < n → p i = false) ∧ idxP p n = -1 := by
  by_cases h : ∃ k, k < n ∧ p k = true
  · obtain ⟨k, hk, hp⟩ := h
    have : ∃ k, (k < n ∧ p k = true) ∧ ∀ i, i < k → ¬ (i < n ∧ p i = true) := by
      induction k using Nat.strongRecOn with
      | ind k ih =>
        by_cases h2 : ∃ j, j < k ∧ (j < n ∧ p j = true)
        · obtain ⟨j, hj, hjn, hjp⟩ := h2
          exact ih j hj hjn hjp
        · exact ⟨k, ⟨hk, hp⟩, fun i hi hc => h2 ⟨i, hi, hc⟩⟩
    obtain ⟨k, ⟨hk, hp⟩, hm⟩ := this
    have hm2 : ∀ i, i < k → p i = false := fun i hi => by
      cases e : p i with
      | false => rfl
      | true => exact absurd ⟨by omega, e⟩ (hm i hi)
    exact .inl ⟨k, hk, hp, hm2, idxP_hit hk hp hm2⟩
  · have hm : ∀ i, i < n → p i = false := fun i hi => by
      cases e : p i with
      | false => rfl
      | true => exact absurd ⟨i, hi, e⟩ h
    exact .inr ⟨hm, idxP_miss hm⟩
theorem anyP_idx (p : Nat → Bool) (n : Nat) : decide (0 ≤ idxP p n) = anyP p n := by
  rcases idxP_cases p n with ⟨k, hk, hp, _, e⟩ | ⟨hm, e⟩
  · rw [e, show anyP p n = true from List.any_eq_true.2 ⟨k, List.mem_range.2 hk, hp⟩]
    simp
  · rw [e, show anyP p n = false from by
      unfold anyP
      rw [← Bool.not_eq_true, List.any_eq_true]
      rintro ⟨i, hi, hp⟩
      rw [hm i (List.mem_range.1 hi)] at hp
      cases hp]
    rfl
theorem anyP_list {α : Type} (q : α → Bool) (l : List α) (d : α) : anyP (fun i => q (l.getD i d)) l.length = l.any q := by
  rw [Bool.eq_iff_iff]
  unfold anyP
  rw [List.any_eq_true, List.any_eq_true]
  constructor
  · rintro ⟨i, hi, h⟩
    exact ⟨_, getD_mem l i d (List.mem_range.1 hi), h⟩
  · rintro ⟨x, hx, h⟩
    obtain ⟨i, hi, rfl⟩ := List.getElem_of_mem hx
    exact ⟨i, List.mem_range.2 hi, by simpa [List.getD, List.getElem?_eq_getElem hi] using h⟩
theorem anyP_congr {p q : Nat → Bool} {n : Nat} (h : ∀ i, i < n → p i = q i) : anyP p n = anyP q n := by
  rw [Bool.eq_iff_iff]
  unfold anyP
  rw [List.any_eq_true, List.any_eq_true]
  constructor
  · rintro ⟨i, hi, e⟩
    exact ⟨i, hi, by rw [← h i (List.mem_range.1 hi)]; exact e⟩
  · rintro ⟨i, hi, e⟩
    exact ⟨i, hi, by rw [h i (List.mem_range.1 hi)]; exact e⟩

set_option maxRecDepth 20000 in
theorem idx_Val (p : Nat → Bool) (g : Nat) (lb : Array Value) (eg : ∀ args w, (callFunc g args).run Tryz.prog w = .ok (.enter g args) w) (ad : Option Addr) (n c : Nat) (f : Nat → Nat → Value) (b off : Nat) (w : World) (hr : Rw w ad n 5 f b off)
    (hp : ∀ W i, i < n → Below w.heap.size w W → Calls Tryz.prog g (#[.agg #[f i 0, f i 1, f i 2, f i 3, f i 4]] ++ lb) W fun e w' => e = .returned (.bool (p i)) ∧ Below W.heap.size W w') :
    Calls Tryz.prog 47 #[.slice ad n c, .func (.func g) #[] lb] w fun e w' => e = .returned (.int .i64 (idxP p n)) ∧ Below w.heap.size w w' := by
  have HR := Lib.hid hr
  have HP := Lib.hid hp
  have hm := hr.max
  clear hr hp
  go_enter Tryz.func47, Tryz.ntmps47
  go_wp2_with fail
  go_loopw [5, 8] (fun _ v wr => ∃ k : Nat, v = .int .i64 (k : Int) ∧ k ≤ n ∧ (∀ i, i < k → p i = false) ∧ Below w.heap.size w wr) (fun _ v _ => n - (intOf v).toNat)
  case atStart => exact ⟨0, rfl, Nat.zero_le _, fun i hi => absurd hi (Nat.not_lt_zero _), Below.refl _ _⟩
  case round =>
    obtain ⟨k, rfl, hkn, hm0, hbl⟩ := hrel
    have HM := Lib.hid hm0
    have HBL := Lib.hid hbl
    clear hm0 hbl
    by_cases hlt : k < n
    · have HRR := Lib.hid (HR.out.below HBL.out)
      have hix := fun W => HRR.out.ix 35 46 Tryz.underlying35 (by kernel_rfl) (by omega) hlt c W
      have c0 : wr.cell? ⟨b, off + k * 5, none⟩ = some (f k 0) := HRR.out.cell k 0 hlt (by omega)
      have c1 : wr.cell? ⟨b, off + k * 5 + 1, none⟩ = some (f k 1) := HRR.out.cell k 1 hlt (by omega)
      have c2 : wr.cell? ⟨b, off + k * 5 + 2, none⟩ = some (f k 2) := HRR.out.cell k 2 hlt (by omega)
      have c3 : wr.cell? ⟨b, off + k * 5 + 3, none⟩ = some (f k 3) := HRR.out.cell k 3 hlt (by omega)
      have c4 : wr.cell? ⟨b, off + k * 5 + 4, none⟩ = some (f k 4) := HRR.out.cell k 4 hlt (by omega)
      have HCALL := Lib.hid (HP.out wr k hlt HBL.out)
      clear HRR
      cases hq : p k with
      | true =>
        have HQ := Lib.hid hq
        rw [Hid, hq] at HCALL
        clear hq
        go_wp2_with (go_at_fn g; refine HCALL.mono ?_; rintro e w' ⟨rfl, hb'⟩)
        go_ret
        exact ⟨ret_int (idxP_hit hlt HQ.out HM.out).symm, HBL.out.trans (hb'.mono HBL.out.size)⟩
      | false =>
        have HQ := Lib.hid hq
        rw [Hid, hq] at HCALL
        clear hq
        go_wp2_with (go_at_fn g; refine HCALL.mono ?_; rintro e w' ⟨rfl, hb'⟩)
        go_roundw
        case rel =>
          refine ⟨k + 1, by go_num, by omega, fun i hi => ?_, HBL.out.trans (hb'.mono HBL.out.size)⟩
          by_cases e : i = k
          · subst e; exact HQ.out
          · exact HM.out i (by omega)
        case measure => simp [intOf]; omega
    · obtain rfl : k = n := by omega
      go_wp2_with fail
      go_ret
      exact ⟨ret_int (idxP_miss HM.out).symm, HBL.out⟩

set_option maxRecDepth 20000 in
theorem idx_Rule (p : Nat → Bool) (g : Nat) (lb : Array Value) (eg : ∀ args w, (callFunc g args).run Tryz.prog w = .ok (.enter g args) w) (ad : Option Addr) (n c : Nat) (f : Nat → Nat → Value) (b off : Nat) (w : World) (hr : Rw w ad n 2 f b off)
    (hp : ∀ W i, i < n → Below w.heap.size w W → Calls Tryz.prog g (#[.agg #[f i 0, f i 1]] ++ lb) W fun e w' => e = .returned (.bool (p i)) ∧ Below W.heap.size W w') :
    Calls Tryz.prog 73 #[.slice ad n c, .func (.func g) #[] lb] w fun e w' => e = .returned (.int .i64 (idxP p n)) ∧ Below w.heap.size w w' := by
  have HR := Lib.hid hr
  have HP := Lib.hid hp
  have hm := hr.max
  clear hr hp
  go_enter Tryz.func73, Tryz.ntmps73
  go_wp2_with fail
  go_loopw [5, 8] (fun _ v wr => ∃ k : Nat, v = .int .i64 (k : Int) ∧ k ≤ n ∧ (∀ i, i < k → p i = false) ∧ Below w.heap.size w wr) (fun _ v _ => n - (intOf v).toNat)
  case atStart => exact ⟨0, rfl, Nat.zero_le _, fun i hi => absurd hi (Nat.not_lt_zero _), Below.refl _ _⟩
  case round =>
    obtain ⟨k, rfl, hkn, hm0, hbl⟩ := hrel
    have HM := Lib.hid hm0
    have HBL := Lib.hid hbl
    clear hm0 hbl
    by_cases hlt : k < n
    · have HRR := Lib.hid (HR.out.below HBL.out)
      have hix := fun W => HRR.out.ix 22 80 Tryz.underlying22 (by kernel_rfl) (by omega) hlt c W
      have c0 : wr.cell? ⟨b, off + k * 2, none⟩ = some (f k 0) := HRR.out.cell k 0 hlt (by omega)
      have c1 : wr.cell? ⟨b, off + k * 2 + 1, none⟩ = some (f k 1) := HRR.out.cell k 1 hlt (by omega)
      have HCALL := Lib.hid (HP.out wr k hlt HBL.out)
      clear HRR
      cases hq : p k with
      | true =>
        have HQ := Lib.hid hq
        rw [Hid, hq] at HCALL
        clear hq
        go_wp2_with (go_at_fn g; refine HCALL.mono ?_; rintro e w' ⟨rfl, hb'⟩)
        go_ret
        exact ⟨ret_int (idxP_hit hlt HQ.out HM.out).symm, HBL.out.trans (hb'.mono HBL.out.size)⟩
      | false =>
        have HQ := Lib.hid hq
        rw [Hid, hq] at HCALL
        clear hq
        go_wp2_with (go_at_fn g; refine HCALL.mono ?_; rintro e w' ⟨rfl, hb'⟩)
        go_roundw
        case rel =>
          refine ⟨k + 1, by go_num, by omega, fun i hi => ?_, HBL.out.trans (hb'.mono HBL.out.size)⟩
          by_cases e : i = k
          · subst e; exact HQ.out
          · exact HM.out i (by omega)
        case measure => simp [intOf]; omega
    · obtain rfl : k = n := by omega
      go_wp2_with fail
      go_ret
      exact ⟨ret_int (idxP_miss HM.out).symm, HBL.out⟩

theorem cont_Rule (p : Nat → Bool) (g : Nat) (lb : Array Value) (eg : ∀ args w, (callFunc g args).run Tryz.prog w = .ok (.enter g args) w) (ad : Option Addr) (n c : Nat) (f : Nat → Nat → Value) (b off : Nat) (w : World) (hr : Rw w ad n 2 f b off)
    (hp : ∀ W i, i < n → Below w.heap.size w W → Calls Tryz.prog g (#[.agg #[f i 0, f i 1]] ++ lb) W fun e w' => e = .returned (.bool (p i)) ∧ Below W.heap.size W w') :
    Calls Tryz.prog 52 #[.slice ad n c, .func (.func g) #[] lb] w fun e w' => e = .returned (.bool (anyP p n)) ∧ Below w.heap.size w w' := by
  have HC := Lib.hid (idx_Rule p g lb eg ad n c f b off w hr hp)
  clear hr hp eg
  rw [← anyP_idx]
  generalize idxP p n = z at *
  go_enter Tryz.func52, Tryz.ntmps52
  go_wp2_with (go_at_call 73; refine HC.out.mono ?_; rintro e w' ⟨rfl, hb'⟩)
  go_ret
  exact ⟨rfl, hb'⟩

set_option maxRecDepth 20000 in
theorem idx_Rel (p : Nat → Bool) (g : Nat) (lb : Array Value) (eg : ∀ args w, (callFunc g args).run Tryz.prog w = .ok (.enter g args) w) (ad : Option Addr) (n c : Nat) (f : Nat → Nat → Value) (b off : Nat) (w : World) (hr : Rw w ad n 4 f b off)
    (hp : ∀ W i, i < n → Below w.heap.size w W → Calls Tryz.prog g (#[.agg #[f i 0, f i 1, f i 2, f i 3]] ++ lb) W fun e w' => e = .returned (.bool (p i)) ∧ Below W.heap.size W w') :
    Calls Tryz.prog 83 #[.slice ad n c, .func (.func g) #[] lb] w fun e w' => e = .returned (.int .i64 (idxP p n)) ∧ Below w.heap.size w w' := by
  have HR := Lib.hid hr
  have HP := Lib.hid hp
  have hm := hr.max
  clear hr hp
  go_enter Tryz.func83, Tryz.ntmps83
  go_wp2_with fail
  go_loopw [5, 8] (fun _ v wr => ∃ k : Nat, v = .int .i64 (k : Int) ∧ k ≤ n ∧ (∀ i, i < k → p i = false) ∧ Below w.heap.size w wr) (fun _ v _ => n - (intOf v).toNat)
  case atStart => exact ⟨0, rfl, Nat.zero_le _, fun i hi => absurd hi (Nat.not_lt_zero _), Below.refl _ _⟩
  case round =>
    obtain ⟨k, rfl, hkn, hm0, hbl⟩ := hrel
    have HM := Lib.hid hm0
    have HBL := Lib.hid hbl
    clear hm0 hbl
    by_cases hlt : k < n
    · have HRR := Lib.hid (HR.out.below HBL.out)
      have hix := fun W => HRR.out.ix 94 93 Tryz.underlying94 (by kernel_rfl) (by omega) hlt c W
      have c0 : wr.cell? ⟨b, off + k * 4, none⟩ = some (f k 0) := HRR.out.cell k 0 hlt (by omega)
      have c1 : wr.cell? ⟨b, off + k * 4 + 1, none⟩ = some (f k 1) := HRR.out.cell k 1 hlt (by omega)
      have c2 : wr.cell? ⟨b, off + k * 4 + 2, none⟩ = some (f k 2) := HRR.out.cell k 2 hlt (by omega)
      have c3 : wr.cell? ⟨b, off + k * 4 + 3, none⟩ = some (f k 3) := HRR.out.cell k 3 hlt (by omega)
      have HCALL := Lib.hid (HP.out wr k hlt HBL.out)
      clear HRR
      cases hq : p k with
      | true =>
        have HQ := Lib.hid hq
        rw [Hid, hq] at HCALL
        clear hq
        go_wp2_with (go_at_fn g; refine HCALL.mono ?_; rintro e w' ⟨rfl, hb'⟩)
        go_ret
        exact ⟨ret_int (idxP_hit hlt HQ.out HM.out).symm, HBL.out.trans (hb'.mono HBL.out.size)⟩
      | false =>
        have HQ := Lib.hid hq
        rw [Hid, hq] at HCALL
        clear hq
        go_wp2_with (go_at_fn g; refine HCALL.mono ?_; rintro e w' ⟨rfl, hb'⟩)
        go_roundw
        case rel =>
          refine ⟨k + 1, by go_num, by omega, fun i hi => ?_, HBL.out.trans (hb'.mono HBL.out.size)⟩
          by_cases e : i = k
          · subst e; exact HQ.out
          · exact HM.out i (by omega)
        case measure => simp [intOf]; omega
    · obtain rfl : k = n := by omega
      go_wp2_with fail
      go_ret
      exact ⟨ret_int (idxP_miss HM.out).symm, HBL.out⟩

theorem cont_Rel (p : Nat → Bool) (g : Nat) (lb : Array Value) (eg : ∀ args w, (callFunc g args).run Tryz.prog w = .ok (.enter g args) w) (ad : Option Addr) (n c : Nat) (f : Nat → Nat → Value) (b off : Nat) (w : World) (hr : Rw w ad n 4 f b off)
    (hp : ∀ W i, i < n → Below w.heap.size w W → Calls Tryz.prog g (#[.agg #[f i 0, f i 1, f i 2, f i 3]] ++ lb) W fun e w' => e = .returned (.bool (p i)) ∧ Below W.heap.size W w') :
    Calls Tryz.prog 70 #[.slice ad n c, .func (.func g) #[] lb] w fun e w' => e = .returned (.bool (anyP p n)) ∧ Below w.heap.size w w' := by
  have HC := Lib.hid (idx_Rel p g lb eg ad n c f b off w hr hp)
  clear hr hp eg
  rw [← anyP_idx]
  generalize idxP p n = z at *
  go_enter Tryz.func70, Tryz.ntmps70
  go_wp2_with (go_at_call 83; refine HC.out.mono ?_; rintro e w' ⟨rfl, hb'⟩)
  go_ret
  exact ⟨rfl, hb'⟩

set_option maxRecDepth 20000 in
theorem idx_Rels (p : Nat → Bool) (g : Nat) (lb : Array Value) (eg : ∀ args w, (callFunc g args).run Tryz.prog w = .ok (.enter g args) w) (ad : Option Addr) (n c : Nat) (f : Nat → Nat → Value) (b off : Nat) (w : World) (hr : Rw w ad n 1 f b off)
    (hp : ∀ W i, i < n → Below w.heap.size w W → Calls Tryz.prog g (#[f i 0] ++ lb) W fun e w' => e = .returned (.bool (p i)) ∧ Below W.heap.size W w') :
    Calls Tryz.prog 93 #[.slice ad n c, .func (.func g) #[] lb] w fun e w' => e = .returned (.int .i64 (idxP p n)) ∧ Below w.heap.size w w' := by
  have HR := Lib.hid hr
  have HP := Lib.hid hp
  have hm := hr.max
  clear hr hp
  go_enter Tryz.func93, Tryz.ntmps93
  go_wp2_with fail
  go_loopw [5, 8] (fun _ v wr => ∃ k : Nat, v = .int .i64 (k : Int) ∧ k ≤ n ∧ (∀ i, i < k → p i = false) ∧ Below w.heap.size w wr) (fun _ v _ => n - (intOf v).toNat)
  case atStart => exact ⟨0, rfl, Nat.zero_le _, fun i hi => absurd hi (Nat.not_lt_zero _), Below.refl _ _⟩
  case round =>
    obtain ⟨k, rfl, hkn, hm0, hbl⟩ := hrel
    have HM := Lib.hid hm0
    have HBL := Lib.hid hbl
    clear hm0 hbl
    by_cases hlt : k < n
    · have HRR := Lib.hid (HR.out.below HBL.out)
      have hix := fun W => HRR.out.ix 78 94 Tryz.underlying78 (by kernel_rfl) (by omega) hlt c W
      rw [Nat.mul_one] at hix
      have c0 : wr.cell? ⟨b, off + k, none⟩ = some (f k 0) := by have := HRR.out.cell k 0 hlt (by omega); rwa [Nat.mul_one, Nat.add_zero] at this
      have HCALL := Lib.hid (HP.out wr k hlt HBL.out)
      clear HRR
      cases hq : p k with
      | true =>
        have HQ := Lib.hid hq
        rw [Hid, hq] at HCALL
        clear hq
        go_wp2_with (go_at_fn g; refine HCALL.mono ?_; rintro e w' ⟨rfl, hb'⟩)
        go_ret
        exact ⟨ret_int (idxP_hit hlt HQ.out HM.out).symm, HBL.out.trans (hb'.mono HBL.out.size)⟩
      | false =>
        have HQ := Lib.hid hq
        rw [Hid, hq] at HCALL
        clear hq
        go_wp2_with (go_at_fn g; refine HCALL.mono ?_; rintro e w' ⟨rfl, hb'⟩)
        go_roundw
        case rel =>
          refine ⟨k + 1, by go_num, by omega, fun i hi => ?_, HBL.out.trans (hb'.mono HBL.out.size)⟩
          by_cases e : i = k
          · subst e; exact HQ.out
          · exact HM.out i (by omega)
        case measure => simp [intOf]; omega
    · obtain rfl : k = n := by omega
      go_wp2_with fail
      go_ret
      exact ⟨ret_int (idxP_miss HM.out).symm, HBL.out⟩

theorem cont_Rels (p : Nat → Bool) (g : Nat) (lb : Array Value) (eg : ∀ args w, (callFunc g args).run Tryz.prog w = .ok (.enter g args) w) (ad : Option Addr) (n c : Nat) (f : Nat → Nat → Value) (b off : Nat) (w : World) (hr : Rw w ad n 1 f b off)
    (hp : ∀ W i, i < n → Below w.heap.size w W → Calls Tryz.prog g (#[f i 0] ++ lb) W fun e w' => e = .returned (.bool (p i)) ∧ Below W.heap.size W w') :
    Calls Tryz.prog 76 #[.slice ad n c, .func (.func g) #[] lb] w fun e w' => e = .returned (.bool (anyP p n)) ∧ Below w.heap.size w w' := by
  have HC := Lib.hid (idx_Rels p g lb eg ad n c f b off w hr hp)
  clear hr hp eg
  rw [← anyP_idx]
  generalize idxP p n = z at *
  go_enter Tryz.func76, Tryz.ntmps76
  go_wp2_with (go_at_call 93; refine HC.out.mono ?_; rintro e w' ⟨rfl, hb'⟩)
  go_ret
  exact ⟨rfl, hb'⟩

set_option maxRecDepth 20000 in
theorem idx_Span (p : Nat → Bool) (g : Nat) (lb : Array Value) (eg : ∀ args w, (callFunc g args).run Tryz.prog w = .ok (.enter g args) w) (ad : Option Addr) (n c : Nat) (f : Nat → Nat → Value) (b off : Nat) (w : World) (hr : Rw w ad n 2 f b off)
    (hp : ∀ W i, i < n → Below w.heap.size w W → Calls Tryz.prog g (#[.agg #[f i 0, f i 1]] ++ lb) W fun e w' => e = .returned (.bool (p i)) ∧ Below W.heap.size W w') :
    Calls Tryz.prog 120 #[.slice ad n c, .func (.func g) #[] lb] w fun e w' => e = .returned (.int .i64 (idxP p n)) ∧ Below w.heap.size w w' := by
  have HR := Lib.hid hr
  have HP := Lib.hid hp
  have hm := hr.max
  clear hr hp
  go_enter Tryz.func120, Tryz.ntmps120
  go_wp2_with fail
  go_loopw [5, 8] (fun _ v wr => ∃ k : Nat, v = .int .i64 (k : Int) ∧ k ≤ n ∧ (∀ i, i < k → p i = false) ∧ Below w.heap.size w wr) (fun _ v _ => n - (intOf v).toNat)
  case atStart => exact ⟨0, rfl, Nat.zero_le _, fun i hi => absurd hi (Nat.not_lt_zero _), Below.refl _ _⟩
  case round =>
    obtain ⟨k, rfl, hkn, hm0, hbl⟩ := hrel
    have HM := Lib.hid hm0
    have HBL := Lib.hid hbl
    clear hm0 hbl
    by_cases hlt : k < n
    · have HRR := Lib.hid (HR.out.below HBL.out)
      have hix := fun W => HRR.out.ix 91 90 Tryz.underlying91 (by kernel_rfl) (by omega) hlt c W
      have c0 : wr.cell? ⟨b, off + k * 2, none⟩ = some (f k 0) := HRR.out.cell k 0 hlt (by omega)
      have c1 : wr.cell? ⟨b, off + k * 2 + 1, none⟩ = some (f k 1) := HRR.out.cell k 1 hlt (by omega)
      have HCALL := Lib.hid (HP.out wr k hlt HBL.out)
      clear HRR
      cases hq : p k with
      | true =>
        have HQ := Lib.hid hq
        rw [Hid, hq] at HCALL
        clear hq
        go_wp2_with (go_at_fn g; refine HCALL.mono ?_; rintro e w' ⟨rfl, hb'⟩)
        go_ret
        exact ⟨ret_int (idxP_hit hlt HQ.out HM.out).symm, HBL.out.trans (hb'.mono HBL.out.size)⟩
      | false =>
        have HQ := Lib.hid hq
        rw [Hid, hq] at HCALL
        clear hq
        go_wp2_with (go_at_fn g; refine HCALL.mono ?_; rintro e w' ⟨rfl, hb'⟩)
        go_roundw
        case rel =>
          refine ⟨k + 1, by go_num, by omega, fun i hi => ?_, HBL.out.trans (hb'.mono HBL.out.size)⟩
          by_cases e : i = k
          · subst e; exact HQ.out
          · exact HM.out i (by omega)
        case measure => simp [intOf]; omega
    · obtain rfl : k = n := by omega
      go_wp2_with fail
      go_ret
      exact ⟨ret_int (idxP_miss HM.out).symm, HBL.out⟩

theorem cont_Span (p : Nat → Bool) (g : Nat) (lb : Array Value) (eg : ∀ args w, (callFunc g args).run Tryz.prog w = .ok (.enter g args) w) (ad : Option Addr) (n c : Nat) (f : Nat → Nat → Value) (b off : Nat) (w : World) (hr : Rw w ad n 2 f b off)
    (hp : ∀ W i, i < n → Below w.heap.size w W → Calls Tryz.prog g (#[.agg #[f i 0, f i 1]] ++ lb) W fun e w' => e = .returned (.bool (p i)) ∧ Below W.heap.size W w') :
    Calls Tryz.prog 105 #[.slice ad n c, .func (.func g) #[] lb] w fun e w' => e = .returned (.bool (anyP p n)) ∧ Below w.heap.size w w' := by
  have HC := Lib.hid (idx_Span p g lb eg ad n c f b off w hr hp)
  clear hr hp eg
  rw [← anyP_idx]
  generalize idxP p n = z at *
  go_enter Tryz.func105, Tryz.ntmps105
  go_wp2_with (go_at_call 120; refine HC.out.mono ?_; rintro e w' ⟨rfl, hb'⟩)
  go_ret
  exact ⟨rfl, hb'⟩

/-- the place of a string in a row -/
def idxS (ss : List ByteArray) (x : ByteArray) : Int := idxP (fun i => decide (ss.getD i .empty = x)) ss.length
def idxI (zs : List Int) (x : Int) : Int := idxP (fun i => decide (zs.getD i 0 = x)) zs.length
theorem any_contains {α : Type} [DecidableEq α] [BEq α] [LawfulBEq α] (l : List α) (x d : α) : anyP (fun i => decide (l.getD i d = x)) l.length = l.contains x := by
  rw [anyP_list (fun y => decide (y = x)), Bool.eq_iff_iff, List.any_eq_true, List.contains_iff_mem]
  constructor
  · rintro ⟨y, hy, e⟩
    rw [← of_decide_eq_true e]; exact hy
  · exact fun h => ⟨x, h, decide_eq_true rfl⟩

set_option maxRecDepth 20000 in
theorem index_int (ad : Option Addr) (n c : Nat) (l : List Int) (x : Int) (w : World) (hr : Sl w ad n (ints l)) :
    Calls Tryz.prog 109 #[.slice ad n c, .int .i64 x] w fun e w' => e = .returned (.int .i64 (idxI l x)) ∧ w = w' := by
  obtain ⟨b, off, hr⟩ := hr
  have hn : l.length = n := by have := hr.len; rwa [ints_length] at this
  have HN := Lib.hid hn
  have HR := Lib.hid hr
  have hm := hr.max
  clear hr hn
  go_enter Tryz.func109, Tryz.ntmps109
  go_wp2_with fail
  go_loop [5, 8] (fun _ v => ∃ k : Nat, v = .int .i64 (k : Int) ∧ k ≤ n ∧ (∀ i, i < k → decide (l.getD i 0 = x) = false)) (fun _ v => n - (intOf v).toNat)
  case atStart => exact ⟨0, rfl, Nat.zero_le _, fun i hi => absurd hi (Nat.not_lt_zero _)⟩
  case round =>
    obtain ⟨k, rfl, hkn, hm0⟩ := hrel
    have HM := Lib.hid hm0
    clear hm0
    by_cases hlt : k < n
    · have hix := fun W => HR.out.ix 70 3 Tryz.underlying70 (by kernel_rfl) hlt (c := c) W
      have hc := HR.out.cell k hlt
      rw [ints_getD _ _ (by rw [HN.out]; exact hlt)] at hc
      have HK : Hid (∀ b, (decide (l.getD k 0 = x)) = b → b = decide (l.getD k 0 = x)) := fun _ h => h.symm
      clear HK
      by_cases he : l.getD k 0 = x
      · have HE := Lib.hid (decide_eq_true he)
        generalize l.getD k 0 = y at hc he
        have e1 : (x == y) = true := by rw [he]; simp
        clear he
        go_wp2_with fail
        go_ret
        exact ⟨ret_int (idxP_hit (by rw [HN.out]; exact hlt) HE.out HM.out).symm, rfl⟩
      · have HE := Lib.hid (decide_eq_false he)
        generalize l.getD k 0 = y at hc he
        have e1 : (x == y) = false := by rw [beq_eq_false_iff_ne]; exact fun e => he e.symm
        clear he
        go_wp2_with fail
        go_round
        case rel =>
          refine ⟨k + 1, by go_num, by omega, fun i hi => ?_⟩
          by_cases e : i = k
          · subst e; exact HE.out
          · exact HM.out i (by omega)
        case measure => simp [intOf]; omega
    · obtain rfl : k = n := by omega
      go_wp2_with fail
      go_ret
      exact ⟨ret_int (idxP_miss (by rw [HN.out]; exact HM.out)).symm, rfl⟩
theorem contains_int (ad : Option Addr) (n c : Nat) (l : List Int) (x : Int) (w : World) (hr : Sl w ad n (ints l)) :
    Calls Tryz.prog 98 #[.slice ad n c, .int .i64 x] w fun e w' => e = .returned (.bool (l.contains x)) ∧ w = w' := by
  have HC := Lib.hid (index_int ad n c l x w hr)
  clear hr
  rw [← any_contains l x 0, ← anyP_idx]
  change Calls Tryz.prog 98 #[.slice ad n c, .int .i64 x] w fun e w' => e = .returned (.bool (decide (0 ≤ idxI l x))) ∧ w = w'
  generalize idxI l x = z at *
  go_enter Tryz.func98, Tryz.ntmps98
  go_wp2_with (go_at_call 109; refine HC.out.mono ?_; rintro e _ ⟨rfl, rfl⟩)
  go_ret
  exact ⟨rfl, rfl⟩

set_option maxRecDepth 20000 in
theorem index_str (ad : Option Addr) (n c : Nat) (l : List ByteArray) (x : ByteArray) (w : World) (hr : Sl w ad n (strs l)) :
    Calls Tryz.prog 55 #[.slice ad n c, .string x] w fun e w' => e = .returned (.int .i64 (idxS l x)) ∧ w = w' := by
  obtain ⟨b, off, hr⟩ := hr
  have hn : l.length = n := by have := hr.len; rwa [strs_length] at this
  have HN := Lib.hid hn
  have HR := Lib.hid hr
  have hm := hr.max
  clear hr hn
  go_enter Tryz.func55, Tryz.ntmps55
  go_wp2_with fail
  go_loop [5, 8] (fun _ v => ∃ k : Nat, v = .int .i64 (k : Int) ∧ k ≤ n ∧ (∀ i, i < k → decide (l.getD i .empty = x) = false)) (fun _ v => n - (intOf v).toNat)
  case atStart => exact ⟨0, rfl, Nat.zero_le _, fun i hi => absurd hi (Nat.not_lt_zero _)⟩
  case round =>
    obtain ⟨k, rfl, hkn, hm0⟩ := hrel
    have HM := Lib.hid hm0
    clear hm0
    by_cases hlt : k < n
    · have hix := fun W => HR.out.ix 28 9 Tryz.underlying28 (by kernel_rfl) hlt (c := c) W
      have hc := HR.out.cell k hlt
      rw [strs_getD _ _ (by rw [HN.out]; exact hlt)] at hc
      have HK : Hid (∀ b, (decide (l.getD k .empty = x)) = b → b = decide (l.getD k .empty = x)) := fun _ h => h.symm
      clear HK
      by_cases he : l.getD k .empty = x
      · have HE := Lib.hid (decide_eq_true he)
        generalize l.getD k .empty = y at hc he
        have e1 : (x.toList == y.toList) = true := by rw [he]; simp
        clear he
        go_wp2_with fail
        go_ret
        exact ⟨ret_int (idxP_hit (by rw [HN.out]; exact hlt) HE.out HM.out).symm, rfl⟩
      · have HE := Lib.hid (decide_eq_false he)
        generalize l.getD k .empty = y at hc he
        have e1 : (x.toList == y.toList) = false := by rw [beq_eq_false_iff_ne]; exact fun e => he (ByteArray.ext (by simpa [ByteArray.toList_eq] using e.symm))
        clear he
        go_wp2_with fail
        go_round
        case rel =>
          refine ⟨k + 1, by go_num, by omega, fun i hi => ?_⟩
          by_cases e : i = k
          · subst e; exact HE.out
          · exact HM.out i (by omega)
        case measure => simp [intOf]; omega
    · obtain rfl : k = n := by omega
      go_wp2_with fail
      go_ret
      exact ⟨ret_int (idxP_miss (by rw [HN.out]; exact HM.out)).symm, rfl⟩
theorem contains_str (ad : Option Addr) (n c : Nat) (l : List ByteArray) (x : ByteArray) (w : World) (hr : Sl w ad n (strs l)) :
    Calls Tryz.prog 69 #[.slice ad n c, .string x] w fun e w' => e = .returned (.bool (l.contains x)) ∧ w = w' := by
  have HC := Lib.hid (index_str ad n c l x w hr)
  clear hr
  rw [← any_contains l x .empty, ← anyP_idx]
  change Calls Tryz.prog 69 #[.slice ad n c, .string x] w fun e w' => e = .returned (.bool (decide (0 ≤ idxS l x))) ∧ w = w'
  generalize idxS l x = z at *
  go_enter Tryz.func69, Tryz.ntmps69
  go_wp2_with (go_at_call 55; refine HC.out.mono ?_; rintro e _ ⟨rfl, rfl⟩)
  go_ret
  exact ⟨rfl, rfl⟩

end Go.Proofs.YtadhblppeaamlaaGreatDoor
