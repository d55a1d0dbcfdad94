/- Plain: the class of a number, and the key that a value chooses. -/
import Derived.Test.YtadhblppeaamlaaGreatDoorQ00
import Derived.Deep.DrawnRows
import Derived.Shelf.Abstract
namespace Go.Proofs.YtadhblppeaamlaaGreatDoor
open Go.RowKit

/-- whether a relation holds for a number -/
def holdsR (s : List UInt8) (r : Rel) : Bool :=
  if (opV s r.op).2 = 0 then insideV r.sp (if r.md = 0 then ((opV s r.op).1 : Int) else ((opV s r.op).1 : Int) % r.md) != r.neg else r.neg
/-- whether a condition holds for a number -/
def holdsC (s : List UInt8) (c : List (List Rel)) : Bool := c.any fun l => l.all (holdsR s)
/-- the class of a number by valid rules -/
def classOf (rs : List (ByteArray × List (List Rel))) (s : List UInt8) : ByteArray :=
  match rs.find? fun r => holdsC s r.2 with
  | some r => r.1
  | none => otherB
/-- the class of a number, and the error -/
def classV (rs : List (ByteArray × List (List Rel))) (s : List UInt8) : ByteArray × Nat :=
  if validR rs && dOk s then (classOf rs s, 0) else (.empty, 1)

/-- a value: its name, type, text, date, and list -/
structure Vl where
  nm : ByteArray
  ty : Int
  tx : ByteArray
  dt : Int
  li : List ByteArray
/-- a string of a machine's size -/
def StrC (_ : World) (x : Nat → Value) (s : ByteArray) : Prop := x 0 = .string s ∧ s.size ≤ 140737488351232
/-- the five cells of a value -/
def ValC (w : World) (x : Nat → Value) (v : Vl) : Prop := x 0 = .string v.nm ∧ v.nm.size ≤ 140737488351232 ∧ x 1 = .int .i64 v.ty ∧ x 2 = .string v.tx ∧ v.tx.size ≤ 140737488351232 ∧ x 3 = .int .i64 v.dt ∧ RowsOf 1 StrC w (x 4) v.li
theorem ValC.below {w w' : World} {x : Nat → Value} {v : Vl} (h : ValC w x v) (hb : Below w.heap.size w w') : ValC w' x v :=
  ⟨h.1, h.2.1, h.2.2.1, h.2.2.2.1, h.2.2.2.2.1, h.2.2.2.2.2.1, h.2.2.2.2.2.2.map hb fun _ _ h => h⟩
/-- values -/
def ValsAt (w : World) (v : Value) (l : List Vl) : Prop := RowsOf 5 ValC w v l
theorem ValsAt.below {w w' : World} {v : Value} {l : List Vl} (h : ValsAt w v l) (hb : Below w.heap.size w w') : ValsAt w' v l := RowsOf.map h hb fun _ _ h => h.below hb
/-- the sixteen cells of a locale, of which the third and the fourth are rules -/
def LocC (w : World) (x : Nat → Value) (a b : List (ByteArray × List (List Rel))) : Prop := RulesAt w (x 3) a ∧ RulesAt w (x 4) b
theorem LocC.below {w w' : World} {x : Nat → Value} {a b : List (ByteArray × List (List Rel))} (h : LocC w x a b) (hb : Below w.heap.size w w') : LocC w' x a b := ⟨h.1.below hb, h.2.below hb⟩
def properVl (v : Vl) : Bool :=
  if v.ty = 1 then decide (v.dt = 0) && decide (v.li.length = 0)
  else if v.ty = 2 then dOk v.tx.data.toList && decide (v.dt = 0) && decide (v.li.length = 0)
  else if v.ty = 3 then decide (v.tx.size = 0) && decide (v.li.length = 0)
  else if v.ty = 4 then decide (v.tx.size = 0) && decide (v.dt = 0)
  else false
/-- whether a value is suitable for a kind -/
def suitV (kind : Int) (v : Vl) : Bool := properVl v && decide (v.ty = if kind = 9 then 1 else 2)
/-- the rules for a kind -/
def rulesV (kind : Int) (card ord : List (ByteArray × List (List Rel))) : List (ByteArray × List (List Rel)) := if kind = 7 then card else if kind = 8 then ord else []
/-- the keys that a value wants -/
def wantV (kind : Int) (rs : List (ByteArray × List (List Rel))) (tx : ByteArray) : List ByteArray :=
  if kind = 9 then [tx, otherB] else [bs (61 :: tx.data.toList), (classV rs tx.data.toList).1, otherB]
/-- the index of the first key that is the first of the wanted ones -/
def firstK (keys : List ByteArray) : List ByteArray → Int
  | [] => -1
  | a :: r => if a ∈ keys then ((keys.idxOf a : Nat) : Int) else firstK keys r
/-- the error ahead of the choice, 0 if there is none -/
def ahead (kind : Int) (rs : List (ByteArray × List (List Rel))) (v : Option Vl) : Nat :=
  if ¬ (7 ≤ kind ∧ kind ≤ 9) then 1 else if validR rs = false then 18 else match v with
    | none => 12
    | some v => if suitV kind v then 0 else 11
/-- what Choose answers -/
def chooseV (kind : Int) (rs : List (ByteArray × List (List Rel))) (keys : List ByteArray) (v : Option Vl) : Int × Nat :=
  if ahead kind rs v = 0 then
    (if firstK keys (wantV kind rs (match v with | some v => v.tx | none => .empty)) < 0 then (0, 13) else (firstK keys (wantV kind rs (match v with | some v => v.tx | none => .empty)), 0))
  else (0, ahead kind rs v)
/-- what Key answers -/
def keyV (kind : Int) (rs : List (ByteArray × List (List Rel))) (keys : List ByteArray) (v : Vl) : ByteArray × Nat :=
  if ahead kind rs (some v) = 0 then
    (if firstK keys (wantV kind rs v.tx) < 0 then (.empty, 13) else (keys.getD (firstK keys (wantV kind rs v.tx)).toNat .empty, 0))
  else (.empty, ahead kind rs (some v))
/-- what Class answers -/
def clsV (kind : Int) (rs : List (ByteArray × List (List Rel))) (s : List UInt8) : ByteArray × Nat :=
  if (kind = 7 ∨ kind = 8) ∧ dOk s = true then (if validR rs then (classOf rs s, 0) else (.empty, 18)) else (.empty, 1)
end Go.Proofs.YtadhblppeaamlaaGreatDoor
/- Walks: slices.IndexFunc and ContainsFunc at structs, Index and Contains at integers and strings. -/
namespace Go.Proofs.YtadhblppeaamlaaGreatDoor
open Go.RowKit
attribute [local go_sem] Ext.cell Ext.frozen
attribute [local go_sem ↓] Go.wp_at_zero Go.wp_at_succ

/-- the first number below n of which p holds, or -1 -/
def idxP (p : Nat → Bool) (n : Nat) : Int := match (List.range n).find? p with
  | some i => (i : Int)
  | none => -1
/-- whether p holds of a number below n -/
def anyP (p : Nat → Bool) (n : Nat) : Bool := (List.range n).any p
theorem idxP_hit {p : Nat → Bool} {n k : Nat} (hk : k < n) (hp : p k = true) (h : ∀ i, i < k → p i = false) : idxP p n = k := by
  have e : List.range n = List.range k ++ k :: List.range' (k + 1) (n - k - 1) := by
    rw [List.range_eq_range', List.range_eq_range', ← List.range'_succ, show n - k - 1 + 1 = n - k from by omega]
    have := List.range'_append (s := 0) (m := k) (n := n - k) (step := 1)
    rw [show 0 + 1 * k = k from by omega, show k + (n - k) = n from by omega] at this
    exact this.symm
  have h0 : (List.range k).find? p = none := List.find?_eq_none.2 fun i hi => by rw [h i (List.mem_range.1 hi)]; simp
  unfold idxP
  rw [e, List.find?_append, h0, List.find?_cons_of_pos hp]
  rfl
theorem idxP_miss {p : Nat → Bool} {n : Nat} (h : ∀ i, i < n → p i = false) : idxP p n = -1 := by
  have h0 : (List.range n).find? p = none := List.find?_eq_none.2 fun i hi => by rw [h i (List.mem_range.1 hi)]; simp
  unfold idxP
  rw [h0]
theorem idxP_cases (p : Nat → Bool) (n : Nat) : (∃ k, k < n ∧ p k = true ∧ (∀ i, i < k → p i = false) ∧ idxP p n = k) ∨ (∀ i, i < n → p i = false) ∧ idxP p n = -1 := by
  by_cases h : ∃ k, k < n ∧ p k = true
  · obtain ⟨k, hk, hp⟩ := h
    have : ∃ k, (k < n ∧ p k = true) ∧ ∀ i, i < k → ¬ (i < n ∧ p i = true) := by
      induction k using Nat.strongRecOn with
      | ind k ih =>
        by_cases h2 : ∃ j, j < k ∧ (j < n ∧ p j = true)
        · obtain ⟨j, hj, hjn, hjp⟩ := h2
          exact ih j hj hjn hjp
        · exact ⟨k, ⟨hk, hp⟩, fun i hi hc => h2 ⟨i, hi, hc⟩⟩
    obtain ⟨k, ⟨hk, hp⟩, hm⟩ := this
    have hm2 : ∀ i, i < k → p i = false := fun i hi => by
      cases e : p i with
      | false => rfl
      | true => exact absurd ⟨by omega, e⟩ (hm i hi)
    exact .inl ⟨k, hk, hp, hm2, idxP_hit hk hp hm2⟩
  · have hm : ∀ i, i < n → p i = false := fun i hi => by
      cases e : p i with
      | false => rfl
      | true => exact absurd ⟨i, hi, e⟩ h
    exact .inr ⟨hm, idxP_miss hm⟩
theorem anyP_idx (p : Nat → Bool) (n : Nat) : decide (0 ≤ idxP p n) = anyP p n := by
  rcases idxP_cases p n with ⟨k, hk, hp, _, e⟩ | ⟨hm, e⟩
  · rw [e, show anyP p n = true from List.any_eq_true.2 ⟨k, List.mem_range.2 hk, hp⟩]
    simp
  · rw [e, show anyP p n = false from by
      unfold anyP
      rw [← Bool.not_eq_true, List.any_eq_true]
      rintro ⟨i, hi, hp⟩
      rw [hm i (List.mem_range.1 hi)] at hp
      cases hp]
    rfl
theorem anyP_list {α : Type} (q : α → Bool) (l : List α) (d : α) : anyP (fun i => q (l.getD i d)) l.length = l.any q := by
  rw [Bool.eq_iff_iff]
  unfold anyP
  rw [List.any_eq_true, List.any_eq_true]
  constructor
  · rintro ⟨i, hi, h⟩
    exact ⟨_, getD_mem l i d (List.mem_range.1 hi), h⟩
  · rintro ⟨x, hx, h⟩
    obtain ⟨i, hi, rfl⟩ := List.getElem_of_mem hx
    exact ⟨i, List.mem_range.2 hi, by simpa [List.getD, List.getElem?_eq_getElem hi] using h⟩
theorem anyP_congr {p q : Nat → Bool} {n : Nat} (h : ∀ i, i < n → p i = q i) : anyP p n = anyP q n := by
  rw [Bool.eq_iff_iff]
  unfold anyP
  rw [List.any_eq_true, List.any_eq_true]
  constructor
  · rintro ⟨i, hi, e⟩
    exact ⟨i, hi, by rw [← h i (List.mem_range.1 hi)]; exact e⟩
  · rintro ⟨i, hi, e⟩
    exact ⟨i, hi, by rw [h i (List.mem_range.1 hi)]; exact e⟩

set_option maxRecDepth 20000 in
theorem idx_Val (p : Nat → Bool) (g : Nat) (lb : Array Value) (eg : ∀ args w, (callFunc g args).run Tryz.prog w = .ok (.enter g args) w) (ad : Option Addr) (n c : Nat) (f : Nat → Nat → Value) (b off : Nat) (w : World) (hr : Rw w ad n 5 f b off)
    (hp : ∀ W i, i < n → Below w.heap.size w W → Calls Tryz.prog g (#[.agg #[f i 0, f i 1, f i 2, f i 3, f i 4]] ++ lb) W fun e w' => e = .returned (.bool (p i)) ∧ Below W.heap.size W w') :
    Calls Tryz.prog 47 #[.slice ad n c, .func (.func g) #[] lb] w fun e w' => e = .returned (.int .i64 (idxP p n)) ∧ Below w.heap.size w w' := by
  have HR := Lib.hid hr
  have HP := Lib.hid hp
  have hm := hr.max
  clear hr hp
  go_enter Tryz.func47, Tryz.ntmps47
  go_wp2_with fail
  go_loopw [5, 8] (fun _ v wr => ∃ k : Nat, v = .int .i64 (k : Int) ∧ k ≤ n ∧ (∀ i, i < k → p i = false) ∧ Below w.heap.size w wr) (fun _ v _ => n - (intOf v).toNat)
  case atStart => exact ⟨0, rfl, Nat.zero_le _, fun i hi => absurd hi (Nat.not_lt_zero _), Below.refl _ _⟩
  case round =>
    obtain ⟨k, rfl, hkn, hm0, hbl⟩ := hrel
    have HM := Lib.hid hm0
    have HBL := Lib.hid hbl
    clear hm0 hbl
    by_cases hlt : k < n
    · have HRR := Lib.hid (HR.out.below HBL.out)
      have hix := fun W => HRR.out.ix 35 46 Tryz.underlying35 (by kernel_rfl) (by omega) hlt c W
      have c0 : wr.cell? ⟨b, off + k * 5, none⟩ = some (f k 0) := HRR.out.cell k 0 hlt (by omega)
      have c1 : wr.cell? ⟨b, off + k * 5 + 1, none⟩ = some (f k 1) := HRR.out.cell k 1 hlt (by omega)
      have c2 : wr.cell? ⟨b, off + k * 5 + 2, none⟩ = some (f k 2) := HRR.out.cell k 2 hlt (by omega)
      have c3 : wr.cell? ⟨b, off + k * 5 + 3, none⟩ = some (f k 3) := HRR.out.cell k 3 hlt (by omega)
      have c4 : wr.cell? ⟨b, off + k * 5 + 4, none⟩ = some (f k 4) := HRR.out.cell k 4 hlt (by omega)
      have HCALL := Lib.hid (HP.out wr k hlt HBL.out)
      clear HRR
      cases hq : p k with
      | true =>
        have HQ := Lib.hid hq
        rw [Hid, hq] at HCALL
        clear hq
        go_wp2_with (go_at_fn g; refine HCALL.mono ?_; rintro e w' ⟨rfl, hb'⟩)
        go_ret
        exact ⟨ret_int (idxP_hit hlt HQ.out HM.out).symm, HBL.out.trans (hb'.mono HBL.out.size)⟩
      | false =>
        have HQ := Lib.hid hq
        rw [Hid, hq] at HCALL
        clear hq
        go_wp2_with (go_at_fn g; refine HCALL.mono ?_; rintro e w' ⟨rfl, hb'⟩)
        go_roundw
        case rel =>
          refine ⟨k + 1, by go_num, by omega, fun i hi => ?_, HBL.out.trans (hb'.mono HBL.out.size)⟩
          by_cases e : i = k
          · subst e; exact HQ.out
          · exact HM.out i (by omega)
        case measure => simp [intOf]; omega
    · obtain rfl : k = n := by omega
      go_wp2_with fail
      go_ret
      exact ⟨ret_int (idxP_miss HM.out).symm, HBL.out⟩

set_option maxRecDepth 20000 in
theorem idx_Rule (p : Nat → Bool) (g : Nat) (lb : Array Value) (eg : ∀ args w, (callFunc g args).run Tryz.prog w = .ok (.enter g args) w) (ad : Option Addr) (n c : Nat) (f : Nat → Nat → Value) (b off : Nat) (w : World) (hr : Rw w ad n 2 f b off)
    (hp : ∀ W i, i < n → Below w.heap.size w W → Calls Tryz.prog g (#[.agg #[f i 0, f i 1]] ++ lb) W fun e w' => e = .returned (.bool (p i)) ∧ Below W.heap.size W w') :
    Calls Tryz.prog 73 #[.slice ad n c, .func (.func g) #[] lb] w fun e w' => e = .returned (.int .i64 (idxP p n)) ∧ Below w.heap.size w w' := by
  have HR := Lib.hid hr
  have HP := Lib.hid hp
  have hm := hr.max
  clear hr hp
  go_enter Tryz.func73, Tryz.ntmps73
  go_wp2_with fail
  go_loopw [5, 8] (fun _ v wr => ∃ k : Nat, v = .int .i64 (k : Int) ∧ k ≤ n ∧ (∀ i, i < k → p i = false) ∧ Below w.heap.size w wr) (fun _ v _ => n - (intOf v).toNat)
  case atStart => exact ⟨0, rfl, Nat.zero_le _, fun i hi => absurd hi (Nat.not_lt_zero _), Below.refl _ _⟩
  case round =>
    obtain ⟨k, rfl, hkn, hm0, hbl⟩ := hrel
    have HM := Lib.hid hm0
    have HBL := Lib.hid hbl
    clear hm0 hbl
    by_cases hlt : k < n
    · have HRR := Lib.hid (HR.out.below HBL.out)
      have hix := fun W => HRR.out.ix 22 80 Tryz.underlying22 (by kernel_rfl) (by omega) hlt c W
      have c0 : wr.cell? ⟨b, off + k * 2, none⟩ = some (f k 0) := HRR.out.cell k 0 hlt (by omega)
      have c1 : wr.cell? ⟨b, off + k * 2 + 1, none⟩ = some (f k 1) := HRR.out.cell k 1 hlt (by omega)
      have HCALL := Lib.hid (HP.out wr k hlt HBL.out)
      clear HRR
      cases hq : p k with
      | true =>
        have HQ := Lib.hid hq
        rw [Hid, hq] at HCALL
        clear hq
        go_wp2_with (go_at_fn g; refine HCALL.mono ?_; rintro e w' ⟨rfl, hb'⟩)
        go_ret
        exact ⟨ret_int (idxP_hit hlt HQ.out HM.out).symm, HBL.out.trans (hb'.mono HBL.out.size)⟩
      | false =>
        have HQ := Lib.hid hq
        rw [Hid, hq] at HCALL
        clear hq
        go_wp2_with (go_at_fn g; refine HCALL.mono ?_; rintro e w' ⟨rfl, hb'⟩)
        go_roundw
        case rel =>
          refine ⟨k + 1, by go_num, by omega, fun i hi => ?_, HBL.out.trans (hb'.mono HBL.out.size)⟩
          by_cases e : i = k
          · subst e; exact HQ.out
          · exact HM.out i (by omega)
        case measure => simp [intOf]; omega
    · obtain rfl : k = n := by omega
      go_wp2_with fail
      go_ret
      exact ⟨ret_int (idxP_miss HM.out).symm, HBL.out⟩

theorem cont_Rule (p : Nat → Bool) (g : Nat) (lb : Array Value) (eg : ∀ args w, (callFunc g args).run Tryz.prog w = .ok (.enter g args) w) (ad : Option Addr) (n c : Nat) (f : Nat → Nat → Value) (b off : Nat) (w : World) (hr : Rw w ad n 2 f b off)
    (hp : ∀ W i, i < n → Below w.heap.size w W → Calls Tryz.prog g (#[.agg #[f i 0, f i 1]] ++ lb) W fun e w' => e = .returned (.bool (p i)) ∧ Below W.heap.size W w') :
    Calls Tryz.prog 52 #[.slice ad n c, .func (.func g) #[] lb] w fun e w' => e = .returned (.bool (anyP p n)) ∧ Below w.heap.size w w' := by
  have HC := Lib.hid (idx_Rule p g lb eg ad n c f b off w hr hp)
  clear hr hp eg
  rw [← anyP_idx]
  generalize idxP p n = z at *
  go_enter Tryz.func52, Tryz.ntmps52
  go_wp2_with (go_at_call 73; refine HC.out.mono ?_; rintro e w' ⟨rfl, hb'⟩)
  go_ret
  exact ⟨rfl, hb'⟩

set_option maxRecDepth 20000 in
theorem idx_Rel (p : Nat → Bool) (g : Nat) (lb : Array Value) (eg : ∀ args w, (callFunc g args).run Tryz.prog w = .ok (.enter g args) w) (ad : Option Addr) (n c : Nat) (f : Nat → Nat → Value) (b off : Nat) (w : World) (hr : Rw w ad n 4 f b off)
    (hp : ∀ W i, i < n → Below w.heap.size w W → Calls Tryz.prog g (#[.agg #[f i 0, f i 1, f i 2, f i 3]] ++ lb) W fun e w' => e = .returned (.bool (p i)) ∧ Below W.heap.size W w') :
    Calls Tryz.prog 83 #[.slice ad n c, .func (.func g) #[] lb] w fun e w' => e = .returned (.int .i64 (idxP p n)) ∧ Below w.heap.size w w' := by
  have HR := Lib.hid hr
  have HP := Lib.hid hp
  have hm := hr.max
  clear hr hp
  go_enter Tryz.func83, Tryz.ntmps83
  go_wp2_with fail
  go_loopw [5, 8] (fun _ v wr => ∃ k : Nat, v = .int .i64 (k : Int) ∧ k ≤ n ∧ (∀ i, i < k → p i = false) ∧ Below w.heap.size w wr) (fun _ v _ => n - (intOf v).toNat)
  case atStart => exact ⟨0, rfl, Nat.zero_le _, fun i hi => absurd hi (Nat.not_lt_zero _), Below.refl _ _⟩
  case round =>
    obtain ⟨k, rfl, hkn, hm0, hbl⟩ := hrel
    have HM := Lib.hid hm0
    have HBL := Lib.hid hbl
    clear hm0 hbl
    by_cases hlt : k < n
    · have HRR := Lib.hid (HR.out.below HBL.out)
      have hix := fun W => HRR.out.ix 94 93 Tryz.underlying94 (by kernel_rfl) (by omega) hlt c W
      have c0 : wr.cell? ⟨b, off + k * 4, none⟩ = some (f k 0) := HRR.out.cell k 0 hlt (by omega)
      have c1 : wr.cell? ⟨b, off + k * 4 + 1, none⟩ = some (f k 1) := HRR.out.cell k 1 hlt (by omega)
      have c2 : wr.cell? ⟨b, off + k * 4 + 2, none⟩ = some (f k 2) := HRR.out.cell k 2 hlt (by omega)
      have c3 : wr.cell? ⟨b, off + k * 4 + 3, none⟩ = some (f k 3) := HRR.out.cell k 3 hlt (by omega)
      have HCALL := Lib.hid (HP.out wr k hlt HBL.out)
      clear HRR
      cases hq : p k with
      | true =>
        have HQ := Lib.hid hq
        rw [Hid, hq] at HCALL
        clear hq
        go_wp2_with (go_at_fn g; refine HCALL.mono ?_; rintro e w' ⟨rfl, hb'⟩)
        go_ret
        exact ⟨ret_int (idxP_hit hlt HQ.out HM.out).symm, HBL.out.trans (hb'.mono HBL.out.size)⟩
      | false =>
        have HQ := Lib.hid hq
        rw [Hid, hq] at HCALL
        clear hq
        go_wp2_with (go_at_fn g; refine HCALL.mono ?_; rintro e w' ⟨rfl, hb'⟩)
        go_roundw
        case rel =>
          refine ⟨k + 1, by go_num, by omega, fun i hi => ?_, HBL.out.trans (hb'.mono HBL.out.size)⟩
          by_cases e : i = k
          · subst e; exact HQ.out
          · exact HM.out i (by omega)
        case measure => simp [intOf]; omega
    · obtain rfl : k = n := by omega
      go_wp2_with fail
      go_ret
      exact ⟨ret_int (idxP_miss HM.out).symm, HBL.out⟩

theorem cont_Rel (p : Nat → Bool) (g : Nat) (lb : Array Value) (eg : ∀ args w, (callFunc g args).run Tryz.prog w = .ok (.enter g args) w) (ad : Option Addr) (n c : Nat) (f : Nat → Nat → Value) (b off : Nat) (w : World) (hr : Rw w ad n 4 f b off)
    (hp : ∀ W i, i < n → Below w.heap.size w W → Calls Tryz.prog g (#[.agg #[f i 0, f i 1, f i 2, f i 3]] ++ lb) W fun e w' => e = .returned (.bool (p i)) ∧ Below W.heap.size W w') :
    Calls Tryz.prog 70 #[.slice ad n c, .func (.func g) #[] lb] w fun e w' => e = .returned (.bool (anyP p n)) ∧ Below w.heap.size w w' := by
  have HC := Lib.hid (idx_Rel p g lb eg ad n c f b off w hr hp)
  clear hr hp eg
  rw [← anyP_idx]
  generalize idxP p n = z at *
  go_enter Tryz.func70, Tryz.ntmps70
  go_wp2_with (go_at_call 83; refine HC.out.mono ?_; rintro e w' ⟨rfl, hb'⟩)
  go_ret
  exact ⟨rfl, hb'⟩

set_option maxRecDepth 20000 in
theorem idx_Rels (p : Nat → Bool) (g : Nat) (lb : Array Value) (eg : ∀ args w, (callFunc g args).run Tryz.prog w = .ok (.enter g args) w) (ad : Option Addr) (n c : Nat) (f : Nat → Nat → Value) (b off : Nat) (w : World) (hr : Rw w ad n 1 f b off)
    (hp : ∀ W i, i < n → Below w.heap.size w W → Calls Tryz.prog g (#[f i 0] ++ lb) W fun e w' => e = .returned (.bool (p i)) ∧ Below W.heap.size W w') :
    Calls Tryz.prog 93 #[.slice ad n c, .func (.func g) #[] lb] w fun e w' => e = .returned (.int .i64 (idxP p n)) ∧ Below w.heap.size w w' := by
  have HR := Lib.hid hr
  have HP := Lib.hid hp
  have hm := hr.max
  clear hr hp
  go_enter Tryz.func93, Tryz.ntmps93
  go_wp2_with fail
  go_loopw [5, 8] (fun _ v wr => ∃ k : Nat, v = .int .i64 (k : Int) ∧ k ≤ n ∧ (∀ i, i < k → p i = false) ∧ Below w.heap.size w wr) (fun _ v _ => n - (intOf v).toNat)
  case atStart => exact ⟨0, rfl, Nat.zero_le _, fun i hi => absurd hi (Nat.not_lt_zero _), Below.refl _ _⟩
  case round =>
    obtain ⟨k, rfl, hkn, hm0, hbl⟩ := hrel
    have HM := Lib.hid hm0
    have HBL := Lib.hid hbl
    clear hm0 hbl
    by_cases hlt : k < n
    · have HRR := Lib.hid (HR.out.below HBL.out)
      have hix := fun W => HRR.out.ix 78 94 Tryz.underlying78 (by kernel_rfl) (by omega) hlt c W
      rw [Nat.mul_one] at hix
      have c0 : wr.cell? ⟨b, off + k, none⟩ = some (f k 0) := by have := HRR.out.cell k 0 hlt (by omega); rwa [Nat.mul_one, Nat.add_zero] at this
      have HCALL := Lib.hid (HP.out wr k hlt HBL.out)
      clear HRR
      cases hq : p k with
      | true =>
        have HQ := Lib.hid hq
        rw [Hid, hq] at HCALL
        clear hq
        go_wp2_with (go_at_fn g; refine HCALL.mono ?_; rintro e w' ⟨rfl, hb'⟩)
        go_ret
        exact ⟨ret_int (idxP_hit hlt HQ.out HM.out).symm, HBL.out.trans (hb'.mono HBL.out.size)⟩
      | false =>
        have HQ := Lib.hid hq
        rw [Hid, hq] at HCALL
        clear hq
        go_wp2_with (go_at_fn g; refine HCALL.mono ?_; rintro e w' ⟨rfl, hb'⟩)
        go_roundw
        case rel =>
          refine ⟨k + 1, by go_num, by omega, fun i hi => ?_, HBL.out.trans (hb'.mono HBL.out.size)⟩
          by_cases e : i = k
          · subst e; exact HQ.out
          · exact HM.out i (by omega)
        case measure => simp [intOf]; omega
    · obtain rfl : k = n := by omega
      go_wp2_with fail
      go_ret
      exact ⟨ret_int (idxP_miss HM.out).symm, HBL.out⟩

theorem cont_Rels (p : Nat → Bool) (g : Nat) (lb : Array Value) (eg : ∀ args w, (callFunc g args).run Tryz.prog w = .ok (.enter g args) w) (ad : Option Addr) (n c : Nat) (f : Nat → Nat → Value) (b off : Nat) (w : World) (hr : Rw w ad n 1 f b off)
    (hp : ∀ W i, i < n → Below w.heap.size w W → Calls Tryz.prog g (#[f i 0] ++ lb) W fun e w' => e = .returned (.bool (p i)) ∧ Below W.heap.size W w') :
    Calls Tryz.prog 76 #[.slice ad n c, .func (.func g) #[] lb] w fun e w' => e = .returned (.bool (anyP p n)) ∧ Below w.heap.size w w' := by
  have HC := Lib.hid (idx_Rels p g lb eg ad n c f b off w hr hp)
  clear hr hp eg
  rw [← anyP_idx]
  generalize idxP p n = z at *
  go_enter Tryz.func76, Tryz.ntmps76
  go_wp2_with (go_at_call 93; refine HC.out.mono ?_; rintro e w' ⟨rfl, hb'⟩)
  go_ret
  exact ⟨rfl, hb'⟩

set_option maxRecDepth 20000 in
theorem idx_Span (p : Nat → Bool) (g : Nat) (lb : Array Value) (eg : ∀ args w, (callFunc g args).run Tryz.prog w = .ok (.enter g args) w) (ad : Option Addr) (n c : Nat) (f : Nat → Nat → Value) (b off : Nat) (w : World) (hr : Rw w ad n 2 f b off)
    (hp : ∀ W i, i < n → Below w.heap.size w W → Calls Tryz.prog g (#[.agg #[f i 0, f i 1]] ++ lb) W fun e w' => e = .returned (.bool (p i)) ∧ Below W.heap.size W w') :
    Calls Tryz.prog 120 #[.slice ad n c, .func (.func g) #[] lb] w fun e w' => e = .returned (.int .i64 (idxP p n)) ∧ Below w.heap.size w w' := by
  have HR := Lib.hid hr
  have HP := Lib.hid hp
  have hm := hr.max
  clear hr hp
  go_enter Tryz.func120, Tryz.ntmps120
  go_wp2_with fail
  go_loopw [5, 8] (fun _ v wr => ∃ k : Nat, v = .int .i64 (k : Int) ∧ k ≤ n ∧ (∀ i, i < k → p i = false) ∧ Below w.heap.size w wr) (fun _ v _ => n - (intOf v).toNat)
  case atStart => exact ⟨0, rfl, Nat.zero_le _, fun i hi => absurd hi (Nat.not_lt_zero _), Below.refl _ _⟩
  case round =>
    obtain ⟨k, rfl, hkn, hm0, hbl⟩ := hrel
    have HM := Lib.hid hm0
    have HBL := Lib.hid hbl
    clear hm0 hbl
    by_cases hlt : k < n
    · have HRR := Lib.hid (HR.out.below HBL.out)
      have hix := fun W => HRR.out.ix 91 90 Tryz.underlying91 (by kernel_rfl) (by omega) hlt c W
      have c0 : wr.cell? ⟨b, off + k * 2, none⟩ = some (f k 0) := HRR.out.cell k 0 hlt (by omega)
      have c1 : wr.cell? ⟨b, off + k * 2 + 1, none⟩ = some (f k 1) := HRR.out.cell k 1 hlt (by omega)
      have HCALL := Lib.hid (HP.out wr k hlt HBL.out)
      clear HRR
      cases hq : p k with
      | true =>
        have HQ := Lib.hid hq
        rw [Hid, hq] at HCALL
        clear hq
        go_wp2_with (go_at_fn g; refine HCALL.mono ?_; rintro e w' ⟨rfl, hb'⟩)
        go_ret
        exact ⟨ret_int (idxP_hit hlt HQ.out HM.out).symm, HBL.out.trans (hb'.mono HBL.out.size)⟩
      | false =>
        have HQ := Lib.hid hq
        rw [Hid, hq] at HCALL
        clear hq
        go_wp2_with (go_at_fn g; refine HCALL.mono ?_; rintro e w' ⟨rfl, hb'⟩)
        go_roundw
        case rel =>
          refine ⟨k + 1, by go_num, by omega, fun i hi => ?_, HBL.out.trans (hb'.mono HBL.out.size)⟩
          by_cases e : i = k
          · subst e; exact HQ.out
          · exact HM.out i (by omega)
        case measure => simp [intOf]; omega
    · obtain rfl : k = n := by omega
      go_wp2_with fail
      go_ret
      exact ⟨ret_int (idxP_miss HM.out).symm, HBL.out⟩

theorem cont_Span (p : Nat → Bool) (g : Nat) (lb : Array Value) (eg : ∀ args w, (callFunc g args).run Tryz.prog w = .ok (.enter g args) w) (ad : Option Addr) (n c : Nat) (f : Nat → Nat → Value) (b off : Nat) (w : World) (hr : Rw w ad n 2 f b off)
    (hp : ∀ W i, i < n → Below w.heap.size w W → Calls Tryz.prog g (#[.agg #[f i 0, f i 1]] ++ lb) W fun e w' => e = .returned (.bool (p i)) ∧ Below W.heap.size W w') :
    Calls Tryz.prog 105 #[.slice ad n c, .func (.func g) #[] lb] w fun e w' => e = .returned (.bool (anyP p n)) ∧ Below w.heap.size w w' := by
  have HC := Lib.hid (idx_Span p g lb eg ad n c f b off w hr hp)
  clear hr hp eg
  rw [← anyP_idx]
  generalize idxP p n = z at *
  go_enter Tryz.func105, Tryz.ntmps105
  go_wp2_with (go_at_call 120; refine HC.out.mono ?_; rintro e w' ⟨rfl, hb'⟩)
  go_ret
  exact ⟨rfl, hb'⟩

/-- the place of a string in a row -/
def idxS (ss : List ByteArray) (x : ByteArray) : Int := idxP (fun i => decide (ss.getD i .empty = x)) ss.length
def idxI (zs : List Int) (x : Int) : Int := idxP (fun i => decide (zs.getD i 0 = x)) zs.length
theorem any_contains {α : Type} [DecidableEq α] [BEq α] [LawfulBEq α] (l : List α) (x d : α) : anyP (fun i => decide (l.getD i d = x)) l.length = l.contains x := by
  rw [anyP_list (fun y => decide (y = x)), Bool.eq_iff_iff, List.any_eq_true, List.contains_iff_mem]
  constructor
  · rintro ⟨y, hy, e⟩
    rw [← of_decide_eq_true e]; exact hy
  · exact fun h => ⟨x, h, decide_eq_true rfl⟩

set_option maxRecDepth 20000 in
theorem index_int (ad : Option Addr) (n c : Nat) (l : List Int) (x : Int) (w : World) (hr : Sl w ad n (ints l)) :
    Calls Tryz.prog 109 #[.slice ad n c, .int .i64 x] w fun e w' => e = .returned (.int .i64 (idxI l x)) ∧ w = w' := by
  obtain ⟨b, off, hr⟩ := hr
  have hn : l.length = n := by have := hr.len; rwa [ints_length] at this
  have HN := Lib.hid hn
  have HR := Lib.hid hr
  have hm := hr.max
  clear hr hn
  go_enter Tryz.func109, Tryz.ntmps109
  go_wp2_with fail
  go_loop [5, 8] (fun _ v => ∃ k : Nat, v = .int .i64 (k : Int) ∧ k ≤ n ∧ (∀ i, i < k → decide (l.getD i 0 = x) = false)) (fun _ v => n - (intOf v).toNat)
  case atStart => exact ⟨0, rfl, Nat.zero_le _, fun i hi => absurd hi (Nat.not_lt_zero _)⟩
  case round =>
    obtain ⟨k, rfl, hkn, hm0⟩ := hrel
    have HM := Lib.hid hm0
    clear hm0
    by_cases hlt : k < n
    · have hix := fun W => HR.out.ix 70 3 Tryz.underlying70 (by kernel_rfl) hlt (c := c) W
      have hc := HR.out.cell k hlt
      rw [ints_getD _ _ (by rw [HN.out]; exact hlt)] at hc
      have HK : Hid (∀ b, (decide (l.getD k 0 = x)) = b → b = decide (l.getD k 0 = x)) := fun _ h => h.symm
      clear HK
      by_cases he : l.getD k 0 = x
      · have HE := Lib.hid (decide_eq_true he)
        generalize l.getD k 0 = y at hc he
        have e1 : (x == y) = true := by rw [he]; simp
        clear he
        go_wp2_with fail
        go_ret
        exact ⟨ret_int (idxP_hit (by rw [HN.out]; exact hlt) HE.out HM.out).symm, rfl⟩
      · have HE := Lib.hid (decide_eq_false he)
        generalize l.getD k 0 = y at hc he
        have e1 : (x == y) = false := by rw [beq_eq_false_iff_ne]; exact fun e => he e.symm
        clear he
        go_wp2_with fail
        go_round
        case rel =>
          refine ⟨k + 1, by go_num, by omega, fun i hi => ?_⟩
          by_cases e : i = k
          · subst e; exact HE.out
          · exact HM.out i (by omega)
        case measure => simp [intOf]; omega
    · obtain rfl : k = n := by omega
      go_wp2_with fail
      go_ret
      exact ⟨ret_int (idxP_miss (by rw [HN.out]; exact HM.out)).symm, rfl⟩
theorem contains_int (ad : Option Addr) (n c : Nat) (l : List Int) (x : Int) (w : World) (hr : Sl w ad n (ints l)) :
    Calls Tryz.prog 98 #[.slice ad n c, .int .i64 x] w fun e w' => e = .returned (.bool (l.contains x)) ∧ w = w' := by
  have HC := Lib.hid (index_int ad n c l x w hr)
  clear hr
  rw [← any_contains l x 0, ← anyP_idx]
  change Calls Tryz.prog 98 #[.slice ad n c, .int .i64 x] w fun e w' => e = .returned (.bool (decide (0 ≤ idxI l x))) ∧ w = w'
  generalize idxI l x = z at *
  go_enter Tryz.func98, Tryz.ntmps98
  go_wp2_with (go_at_call 109; refine HC.out.mono ?_; rintro e _ ⟨rfl, rfl⟩)
  go_ret
  exact ⟨rfl, rfl⟩

set_option maxRecDepth 20000 in
theorem index_str (ad : Option Addr) (n c : Nat) (l : List ByteArray) (x : ByteArray) (w : World) (hr : Sl w ad n (strs l)) :
    Calls Tryz.prog 55 #[.slice ad n c, .string x] w fun e w' => e = .returned (.int .i64 (idxS l x)) ∧ w = w' := by
  obtain ⟨b, off, hr⟩ := hr
  have hn : l.length = n := by have := hr.len; rwa [strs_length] at this
  have HN := Lib.hid hn
  have HR := Lib.hid hr
  have hm := hr.max
  clear hr hn
  go_enter Tryz.func55, Tryz.ntmps55
  go_wp2_with fail
  go_loop [5, 8] (fun _ v => ∃ k : Nat, v = .int .i64 (k : Int) ∧ k ≤ n ∧ (∀ i, i < k → decide (l.getD i .empty = x) = false)) (fun _ v => n - (intOf v).toNat)
  case atStart => exact ⟨0, rfl, Nat.zero_le _, fun i hi => absurd hi (Nat.not_lt_zero _)⟩
  case round =>
    obtain ⟨k, rfl, hkn, hm0⟩ := hrel
    have HM := Lib.hid hm0
    clear hm0
    by_cases hlt : k < n
    · have hix := fun W => HR.out.ix 28 9 Tryz.underlying28 (by kernel_rfl) hlt (c := c) W
      have hc := HR.out.cell k hlt
      rw [strs_getD _ _ (by rw [HN.out]; exact hlt)] at hc
      have HK : Hid (∀ b, (decide (l.getD k .empty = x)) = b → b = decide (l.getD k .empty = x)) := fun _ h => h.symm
      clear HK
      by_cases he : l.getD k .empty = x
      · have HE := Lib.hid (decide_eq_true he)
        generalize l.getD k .empty = y at hc he
        have e1 : (x.toList == y.toList) = true := by rw [he]; simp
        clear he
        go_wp2_with fail
        go_ret
        exact ⟨ret_int (idxP_hit (by rw [HN.out]; exact hlt) HE.out HM.out).symm, rfl⟩
      · have HE := Lib.hid (decide_eq_false he)
        generalize l.getD k .empty = y at hc he
        have e1 : (x.toList == y.toList) = false := by rw [beq_eq_false_iff_ne]; exact fun e => he (ByteArray.ext (by simpa [ByteArray.toList_eq] using e.symm))
        clear he
        go_wp2_with fail
        go_round
        case rel =>
          refine ⟨k + 1, by go_num, by omega, fun i hi => ?_⟩
          by_cases e : i = k
          · subst e; exact HE.out
          · exact HM.out i (by omega)
        case measure => simp [intOf]; omega
    · obtain rfl : k = n := by omega
      go_wp2_with fail
      go_ret
      exact ⟨ret_int (idxP_miss (by rw [HN.out]; exact HM.out)).symm, rfl⟩
theorem contains_str (ad : Option Addr) (n c : Nat) (l : List ByteArray) (x : ByteArray) (w : World) (hr : Sl w ad n (strs l)) :
    Calls Tryz.prog 69 #[.slice ad n c, .string x] w fun e w' => e = .returned (.bool (l.contains x)) ∧ w = w' := by
  have HC := Lib.hid (index_str ad n c l x w hr)
  clear hr
  rw [← any_contains l x .empty, ← anyP_idx]
  change Calls Tryz.prog 69 #[.slice ad n c, .string x] w fun e w' => e = .returned (.bool (decide (0 ≤ idxS l x))) ∧ w = w'
  generalize idxS l x = z at *
  go_enter Tryz.func69, Tryz.ntmps69
  go_wp2_with (go_at_call 55; refine HC.out.mono ?_; rintro e _ ⟨rfl, rfl⟩)
  go_ret
  exact ⟨rfl, rfl⟩

end Go.Proofs.YtadhblppeaamlaaGreatDoor
/- Plain: what the loops over rules, conditions and keys compute. -/
namespace Go.Proofs.YtadhblppeaamlaaGreatDoor
open Go.RowKit

theorem RowsOf.get {α : Type} {C : World → (Nat → Value) → α → Prop} {w : World} {l : List α} {f : Nat → Nat → Value} (h : ∀ i x, l[i]? = some x → C w (f i) x) {i : Nat} (hi : i < l.length) (d : α) : C w (f i) (l.getD i d) :=
  h i _ (by rw [List.getElem?_eq_getElem hi]; simp [List.getD, List.getElem?_eq_getElem hi])
theorem all_getD {α : Type} {q : α → Bool} {l : List α} (d : α) (h : ∀ i, i < l.length → q (l.getD i d) = true) : l.all q = true := by
  rw [List.all_eq_true]
  intro x hx
  obtain ⟨i, hi, rfl⟩ := List.getElem_of_mem hx
  have := h i hi
  rwa [show l.getD i d = l[i] from by simp [List.getD, List.getElem?_eq_getElem hi]] at this
theorem all_not {α : Type} {q : α → Bool} {l : List α} (d : α) {i : Nat} (hi : i < l.length) (h : q (l.getD i d) = false) : l.all q = false := by
  rw [← Bool.not_eq_true, List.all_eq_true]
  intro hc
  rw [hc _ (getD_mem l i d hi)] at h
  cases h
theorem any_getD {α : Type} {q : α → Bool} {l : List α} (d : α) {i : Nat} (hi : i < l.length) (h : q (l.getD i d) = true) : l.any q = true :=
  List.any_eq_true.2 ⟨_, getD_mem l i d hi, h⟩
theorem any_not {α : Type} {q : α → Bool} {l : List α} (d : α) (h : ∀ i, i < l.length → q (l.getD i d) = false) : l.any q = false := by
  rw [← Bool.not_eq_true, List.any_eq_true]
  rintro ⟨x, hx, e⟩
  obtain ⟨i, hi, rfl⟩ := List.getElem_of_mem hx
  have := h i hi
  rw [show l.getD i d = l[i] from by simp [List.getD, List.getElem?_eq_getElem hi], e] at this
  cases this
theorem relN_getD {c : List (List Rel)} {k : Nat} (hk : k < c.length) : relN (c.take (k + 1)) = relN (c.take k) + (c.getD k []).length :=
  relN_take (by simp [List.getD, List.getElem?_eq_getElem hk])
theorem relN_all (c : List (List Rel)) : relN (c.take c.length) = relN c := by rw [List.take_length]
theorem validC_no {c : List (List Rel)} {k : Nat} (hk : k < c.length) (h : listOk (c.getD k []) = false) : validC c = false := by
  unfold validC
  rw [all_not [] hk h]
  rfl
theorem validC_end {c : List (List Rel)} (h : ∀ i, i < c.length → listOk (c.getD i []) = true) : validC c = (decide (0 < c.length) && decide (relN c ≤ 6)) := by
  unfold validC
  rw [all_getD [] h]
  cases c <;> simp
theorem validR_no {rs : List (ByteArray × List (List Rel))} {k : Nat} (hk : k < rs.length) (h : ruleOk rs k = false) : validR rs = false := by
  unfold validR
  rw [← Bool.not_eq_true, List.all_eq_true]
  intro hc
  rw [hc k (List.mem_range.2 hk)] at h
  cases h
theorem validR_end {rs : List (ByteArray × List (List Rel))} (h : ∀ i, i < rs.length → ruleOk rs i = true) : validR rs = true :=
  List.all_eq_true.2 fun i hi => h i (List.mem_range.1 hi)
/-- the rules ahead of the k-th one have another class -/
theorem ruleOk_eq (rs : List (ByteArray × List (List Rel))) (k : Nat) (hk : k < rs.length) : ruleOk rs k = (knownC (rs.getD k (.empty, [])).1 && validC (rs.getD k (.empty, [])).2 && !(anyP (fun j => (rs.getD j (.empty, [])).1 == (rs.getD k (.empty, [])).1) k)) := by
  have e1 : ((rs.take k).any fun x => x.1 == (rs.getD k (.empty, [])).1) = anyP (fun j => (rs.getD j (.empty, [])).1 == (rs.getD k (.empty, [])).1) k := by
    have e := anyP_list (fun x : ByteArray × List (List Rel) => x.1 == (rs.getD k (.empty, [])).1) (rs.take k) (.empty, [])
    rw [← e, List.length_take, Nat.min_eq_left (by omega)]
    apply anyP_congr
    intro i hi
    simp [List.getD, hi]
  rw [← e1]
  rfl
theorem holdsC_hit {s : List UInt8} {c : List (List Rel)} {k : Nat} (hk : k < c.length) (h : (c.getD k []).all (holdsR s) = true) : holdsC s c = true := any_getD [] hk h
theorem holdsC_miss {s : List UInt8} {c : List (List Rel)} (h : ∀ i, i < c.length → (c.getD i []).all (holdsR s) = false) : holdsC s c = false := any_not [] h
theorem classOf_hit {rs : List (ByteArray × List (List Rel))} {s : List UInt8} {k : Nat} (hk : k < rs.length) (h : holdsC s (rs.getD k (.empty, [])).2 = true) (hm : ∀ i, i < k → holdsC s (rs.getD i (.empty, [])).2 = false) : classOf rs s = (rs.getD k (.empty, [])).1 := by
  have e : rs = rs.take k ++ rs.getD k (.empty, []) :: rs.drop (k + 1) := by
    rw [show rs.getD k (.empty, []) = rs[k] from by simp [List.getD, List.getElem?_eq_getElem hk], ← List.drop_eq_getElem_cons hk, List.take_append_drop]
  have h0 : (rs.take k).find? (fun r => holdsC s r.2) = none := List.find?_eq_none.2 fun x hx => by
    obtain ⟨i, hi, rfl⟩ := List.getElem_of_mem hx
    have hik : i < k := by simp at hi; omega
    have := hm i hik
    rw [show rs.getD i (.empty, []) = (rs.take k)[i] from by simp [List.getD, List.getElem?_eq_getElem (show i < rs.length by omega)]] at this
    rw [this]
    simp
  unfold classOf
  have : rs.find? (fun r => holdsC s r.2) = some (rs.getD k (.empty, [])) := by
    conv => lhs; rw [e]
    rw [List.find?_append, h0, List.find?_cons_of_pos (p := fun r : ByteArray × List (List Rel) => holdsC s r.2) h]
    rfl
  rw [this]
theorem classOf_miss {rs : List (ByteArray × List (List Rel))} {s : List UInt8} (hm : ∀ i, i < rs.length → holdsC s (rs.getD i (.empty, [])).2 = false) : classOf rs s = otherB := by
  unfold classOf
  have : rs.find? (fun r => holdsC s r.2) = none := List.find?_eq_none.2 fun x hx => by
    obtain ⟨i, hi, rfl⟩ := List.getElem_of_mem hx
    have := hm i hi
    rw [show rs.getD i (.empty, []) = rs[i] from by simp [List.getD, List.getElem?_eq_getElem hi]] at this
    rw [this]
    simp
  rw [this]
theorem classV_yes {rs : List (ByteArray × List (List Rel))} {s : List UInt8} (h1 : validR rs = true) (h2 : dOk s = true) : classV rs s = (classOf rs s, 0) := by unfold classV; rw [h1, h2]; rfl
theorem classV_no {rs : List (ByteArray × List (List Rel))} {s : List UInt8} (h1 : validR rs = false) : classV rs s = (.empty, 1) := by unfold classV; rw [h1]; rfl
theorem classV_no2 {rs : List (ByteArray × List (List Rel))} {s : List UInt8} (h2 : dOk s = false) : classV rs s = (.empty, 1) := by unfold classV; rw [h2, Bool.and_false]; rfl
end Go.Proofs.YtadhblppeaamlaaGreatDoor
/- Plain: a key that is there is chosen: the very number or text, then the class, then other. -/
namespace Go.Proofs.YtadhblppeaamlaaGreatDoor
open Go.RowKit

theorem firstK_in {keys : List ByteArray} {a : ByteArray} {r : List ByteArray} (h : a ∈ keys) : firstK keys (a :: r) = ((keys.idxOf a : Nat) : Int) := if_pos h
theorem firstK_out {keys : List ByteArray} {a : ByteArray} {r : List ByteArray} (h : a ∉ keys) : firstK keys (a :: r) = firstK keys r := if_neg h
theorem idxOf_getD {keys : List ByteArray} {a : ByteArray} (h : a ∈ keys) : keys.getD (keys.idxOf a) .empty = a := by
  have h2 := List.idxOf_lt_length_of_mem h
  rw [List.getD, List.getElem?_eq_getElem h2, Option.getD_some]
  exact List.getElem_idxOf h2
/-- the key that a list of wanted keys chooses -/
def pickV (keys want : List ByteArray) : ByteArray × Nat :=
  if firstK keys want < 0 then (.empty, 13) else (keys.getD (firstK keys want).toNat .empty, 0)
theorem pickV_nil (keys : List ByteArray) : pickV keys [] = (.empty, 13) := rfl
theorem pickV_in {keys : List ByteArray} {a : ByteArray} {r : List ByteArray} (h : a ∈ keys) : pickV keys (a :: r) = (a, 0) := by
  unfold pickV
  rw [firstK_in h, if_neg (by omega), Int.toNat_natCast, idxOf_getD h]
theorem pickV_out {keys : List ByteArray} {a : ByteArray} {r : List ByteArray} (h : a ∉ keys) : pickV keys (a :: r) = pickV keys r := by
  unfold pickV
  rw [firstK_out h]
theorem keyV_pick (kind : Int) (rs : List (ByteArray × List (List Rel))) (keys : List ByteArray) (v : Vl) :
    keyV kind rs keys v = if ahead kind rs (some v) = 0 then pickV keys (wantV kind rs v.tx) else (.empty, ahead kind rs (some v)) := rfl
theorem classOf_ne {rs : List (ByteArray × List (List Rel))} (h : validR rs = true) (s : List UInt8) : classOf rs s ≠ .empty := by
  unfold classOf
  split
  · rename_i r hf
    have hm := List.mem_of_find?_eq_some hf
    obtain ⟨i, hi, e⟩ := List.getElem_of_mem hm
    have h1 := List.all_eq_true.1 h i (List.mem_range.2 hi)
    simp only [ruleOk, Bool.and_eq_true] at h1
    have h2 := h1.1.1
    rw [show rs.getD i (.empty, []) = r from by simp [List.getD, List.getElem?_eq_getElem hi, e]] at h2
    intro hc
    rw [hc] at h2
    exact absurd h2 (by decide)
  · decide
/-- what ChooseExact demands of a key, its error, the class and its error -/
def exactOk (kind : Int) (keys : List ByteArray) (tx : ByteArray) (k : ByteArray × Nat) (c : ByteArray × Nat) : Bool :=
  if k.2 ≠ 0 then decide (k.1 = .empty)
  else if kind = 9 then (if keys.contains tx then decide (k.1 = tx) else decide (k.1 = otherB))
  else if c.2 ≠ 0 then false
  else if keys.contains (bs (61 :: tx.data.toList)) then decide (k.1 = bs (61 :: tx.data.toList))
  else if c.1 ≠ .empty ∧ keys.contains c.1 = true then decide (k.1 = c.1)
  else decide (k.1 = otherB)
theorem pick_err {keys want : List ByteArray} (h : (pickV keys want).2 ≠ 0) : (pickV keys want).1 = .empty := by
  unfold pickV at h ⊢
  split
  · rfl
  · rename_i hc
    rw [if_neg hc] at h
    exact absurd rfl h
theorem pick_two {keys : List ByteArray} {a b : ByteArray} (h : (pickV keys [a, b]).2 = 0) (hn : a ∉ keys) : (pickV keys [a, b]).1 = b := by
  rw [pickV_out hn] at h ⊢
  by_cases hb : b ∈ keys
  · rw [pickV_in hb]
  · rw [pickV_out hb, pickV_nil] at h
    cases h
theorem exact_holds (kind : Int) (rs : List (ByteArray × List (List Rel))) (keys : List ByteArray) (v : Vl) :
    exactOk kind keys v.tx (keyV kind rs keys v) (clsV kind rs v.tx.data.toList) = true := by
  rw [keyV_pick]
  by_cases ha : ahead kind rs (some v) = 0
  · rw [if_pos ha]
    have hk : 7 ≤ kind ∧ kind ≤ 9 := by
      by_cases h : 7 ≤ kind ∧ kind ≤ 9
      · exact h
      · unfold ahead at ha
        rw [if_pos h] at ha
        cases ha
    have hr : validR rs = true := by
      cases h : validR rs with
      | true => rfl
      | false =>
        unfold ahead at ha
        rw [if_neg (by simpa using hk), if_pos h] at ha
        cases ha
    have hs : suitV kind v = true := by
      cases h : suitV kind v with
      | true => rfl
      | false =>
        unfold ahead at ha
        rw [if_neg (by simpa using hk), if_neg (by rw [hr]; simp)] at ha
        simp [h] at ha
    by_cases he : (pickV keys (wantV kind rs v.tx)).2 = 0
    · by_cases h9 : kind = 9
      · have ew : wantV kind rs v.tx = [v.tx, otherB] := if_pos h9
        rw [ew] at he ⊢
        unfold exactOk
        rw [if_neg (by rw [he]; simp), if_pos h9]
        by_cases hm : v.tx ∈ keys
        · rw [if_pos (List.contains_iff_mem.2 hm), pickV_in hm]
          simp
        · rw [if_neg (by rw [List.contains_iff_mem]; exact hm), pick_two he hm]
          simp
      · have ew : wantV kind rs v.tx = [bs (61 :: v.tx.data.toList), (classV rs v.tx.data.toList).1, otherB] := if_neg h9
        have hd : dOk v.tx.data.toList = true := by
          unfold suitV at hs
          rw [if_neg h9, Bool.and_eq_true, decide_eq_true_eq] at hs
          have h1 := hs.1
          unfold properVl at h1
          rw [if_neg (by rw [hs.2]; omega), if_pos hs.2, Bool.and_eq_true, Bool.and_eq_true] at h1
          exact h1.1.1
        rw [classV_yes hr hd] at ew
        have ec : clsV kind rs v.tx.data.toList = (classOf rs v.tx.data.toList, 0) := by
          unfold clsV
          rw [if_pos ⟨by omega, hd⟩, if_pos hr]
        rw [ew] at he ⊢
        rw [ec]
        have hne := classOf_ne hr v.tx.data.toList
        generalize classOf rs v.tx.data.toList = cl at *
        unfold exactOk
        rw [if_neg (by rw [he]; simp), if_neg h9, if_neg (by simp)]
        by_cases hm : bs (61 :: v.tx.data.toList) ∈ keys
        · rw [if_pos (List.contains_iff_mem.2 hm), pickV_in hm]
          simp
        · rw [if_neg (by rw [List.contains_iff_mem]; exact hm)]
          rw [pickV_out hm] at he ⊢
          by_cases hc : cl ∈ keys
          · rw [if_pos ⟨hne, List.contains_iff_mem.2 hc⟩, pickV_in hc]
            simp
          · rw [if_neg (by rintro ⟨_, h⟩; exact hc (List.contains_iff_mem.1 h)), pick_two he hc]
            simp
    · unfold exactOk
      rw [if_pos he, pick_err he]
      simp
  · rw [if_neg ha]
    unfold exactOk
    rw [if_pos ha]
    simp
end Go.Proofs.YtadhblppeaamlaaGreatDoor
