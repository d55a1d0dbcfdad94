/- Walk: the reference's Same of tokens. -/
import Derived.Test.YtmleeodfmmpdgaaGreatDoorQ10
import Derived.Deep.QuietTactic
import Derived.BigQuiet
import Derived.Test.YtmleeodfmmpdgaaGreatDoorRows
import Derived.Lib.LaidU8T
import Derived.Shelf.Vars
import Derived.Test.YtmleeodfmmpdgaaGreatDoorQ00
import Derived.Deep.DrawnRows
import Derived.Shelf.Abstract
namespace Go.Proofs.YtmleeodfmmpdgaaGreatDoor
open Go.RowKit
attribute [local go_sem] Ext.cell Ext.frozen
attribute [local go_sem ↓] Go.wp_at_zero Go.wp_at_succ
end Go.Proofs.YtmleeodfmmpdgaaGreatDoor
/- Walks over tokens of any kind and place: few, to, IsWord, IsText; the reference's Same. -/
namespace Go.Proofs.YtmleeodfmmpdgaaGreatDoor
open Go.RowKit
attribute [local go_sem] Ext.cell Ext.frozen
attribute [local go_sem ↓] Go.wp_at_zero Go.wp_at_succ
/-- a token as it is given: kind, text, place -/
abbrev Tz := Int × List UInt8 × Int
def tz0 : Tz := (0, [], 0)
structure TzAt (w : World) (ad : Option Addr) (n : Nat) (xs : List Tz) (b off : Nat) : Prop where
  len : xs.length = n
  max : n ≤ 10000000000000
  adr : n ≠ 0 → ad = some ⟨b, off, none⟩
  c0 : ∀ i, i < n → w.cell? ⟨b, off + i * 3, none⟩ = some (.int .i64 (xs.getD i tz0).1)
  c1 : ∀ i, i < n → w.cell? ⟨b, off + i * 3 + 1, none⟩ = some (.string (bs (xs.getD i tz0).2.1))
  c2 : ∀ i, i < n → w.cell? ⟨b, off + i * 3 + 2, none⟩ = some (.int .i64 (xs.getD i tz0).2.2)
def zOf (x : Nx) : Tz := ((x.1.1 : Int), x.1.2.1, (x.1.2.2 : Int))
theorem zOf_getD (xs : List Nx) {i : Nat} (h : i < xs.length) : (xs.map zOf).getD i tz0 = zOf (xs.getD i (badN 0 0)) := by
  simp [List.getD, List.getElem?_eq_getElem h]
theorem TkAt.z {w : World} {ad : Option Addr} {n : Nat} {xs : List Nx} {b off : Nat} (h : TkAt w ad n xs b off) : TzAt w ad n (xs.map zOf) b off :=
  ⟨by rw [List.length_map]; exact h.len, by have := h.max; omega, h.adr, fun i hi => by rw [zOf_getD _ (by rw [h.len]; exact hi)]; exact h.c0 i hi, fun i hi => by rw [zOf_getD _ (by rw [h.len]; exact hi)]; exact h.c1 i hi, fun i hi => by rw [zOf_getD _ (by rw [h.len]; exact hi)]; exact h.c2 i hi⟩
theorem TzAt.ixT {P : Program} {w : World} {ad : Option Addr} {n : Nat} {xs} {b off : Nat} (h : TzAt w ad n xs b off) (T E : TypeId) (hT : P.underlying T = some (.slice E)) (hE : P.cellsOf E = 3) {i : Nat} (hi : i < n) (c : Nat) (W : World) :
    (Instr.indexAt T (.slice ad n c) (.int .i64 (i : Int))).run P W = .ok (.pointer (some ⟨b, off + i * 3, none⟩)) W := by
  rw [h.adr (by omega)]
  have hel : P.elem T = E := by simp [Program.elem, hT]
  rw [run_indexAt_slice W T _ n c .i64 i (by rw [hel]; exact hT), hel, if_pos (by omega)]
  have hs : (sizeOf E).run P W = .ok 3 W := by
    unfold Program.cellsOf at hE
    cases hi' : P.info? E with
    | none => simp [hi'] at hE
    | some q => simp [hi'] at hE; simp [sizeOf, typeInfo, hi', hE]
  rw [hs]
  simp [Result.andThen, Addr.add]
theorem TzAt.below {w w' : World} {ad : Option Addr} {n : Nat} {xs} {b off : Nat} (h : TzAt w ad n xs b off) (hb : Below w.heap.size w w') : TzAt w' ad n xs b off :=
  ⟨h.len, h.max, h.adr, fun i hi => (hb.cell (p := ⟨b, off + i * 3, none⟩) (World.block_lt_of_cell? w _ (h.c0 i hi))).trans (h.c0 i hi),
    fun i hi => (hb.cell (p := ⟨b, off + i * 3 + 1, none⟩) (World.block_lt_of_cell? w _ (h.c1 i hi))).trans (h.c1 i hi),
    fun i hi => (hb.cell (p := ⟨b, off + i * 3 + 2, none⟩) (World.block_lt_of_cell? w _ (h.c2 i hi))).trans (h.c2 i hi)⟩
def isWordV (l : List UInt8) : Bool := decide (l ≠ []) && decide (l.length ≤ 40) && decide (wordLen l = l.length)
def isTextV (l : List UInt8) : Bool := decide (l.length ≤ 400) && Lib.validD l
end Go.Proofs.YtmleeodfmmpdgaaGreatDoor
/- Plain: the laid variables of a row of layer 11: utf8's tables; bytealg.MaxLen holds a number. -/
namespace Go.Proofs.YtmleeodfmmpdgaaGreatDoor
open Go.RowKit Go.Lib
theorem first_data : (Rows.laid_unicode_utf8_first : DataW Unit) = firstData := by kernel_rfl
theorem accept_data : (Rows.laid_unicode_utf8_acceptRanges : DataW Unit) = acceptData := by kernel_rfl
theorem u8extra : U8Extra Tryz.prog Tryz.lays196_ren := ⟨by kernel_rfl, by kernel_rfl, by kernel_rfl, by kernel_rfl, by kernel_rfl, by kernel_rfl, by kernel_rfl⟩
theorem maxLen_of11 {W : World} (h : W.ShapedOpen Tryz.prog) : MaxLen W :=
  cell_of_shapedOpen_int (g := 1) (t := 3) (k := .i64) (zero := #[.int .i64 0]) h (by decide +kernel) (by kernel_rfl) rfl (by kernel_rfl) (by kernel_rfl) Tryz.underlying3
end Go.Proofs.YtmleeodfmmpdgaaGreatDoor
/- How an argument that is a slice of tokens is read; the laid tables in any row. -/
namespace Go.Proofs.YtmleeodfmmpdgaaGreatDoor
open Go.ChangeShapes Go.WideShapes Go.RowKit
section
variable {H : Type} {enc : TypeId × Value → H} {w : World} {base : Nat} {spare : Nat → Bool} {held : Bool}
end
theorem tabU_mem {W : World} {laid : List (String × DataW Unit)} (hall : (laid.all fun x => x.2.handleName?.isNone) = true) (hA : ("unicode/utf8.acceptRanges", Rows.laid_unicode_utf8_acceptRanges) ∈ laid) (hF : ("unicode/utf8.first", Rows.laid_unicode_utf8_first) ∈ laid)
    (h : laidMetH Tryz.prog laid W) : TabU W := by
  rw [MakeChecks.laidMetH_plain _ _ _ hall] at h
  have h2 := Lib.laidMet.reads h hA
  have h1 := Lib.laidMet.reads h hF
  rw [first_data] at h1
  rw [accept_data] at h2
  exact utf8Tabs_of_readsT (U8Types.of196 Tryz.lays196) u8extra h1 h2
end Go.Proofs.YtmleeodfmmpdgaaGreatDoor
/- Rules in memory: conditions, and what they say. -/
namespace Go.Proofs.YtmleeodfmmpdgaaGreatDoor
open Go.RowKit

instance : LawfulBEq ByteArray where
  eq_of_beq {a b} h := by
    have h : (a.data == b.data) = true := h
    have := eq_of_beq h
    cases a; cases b; simp_all
  rfl {a} := by
    show (a.data == a.data) = true
    exact beq_self_eq_true _
/-- a relation of a condition -/
structure Rel where
  op : Int
  md : Int
  neg : Bool
  sp : List (Int × Int)
/-- a slice of structs of k cells that reads as a list -/
def RowsOf {α : Type} (k : Nat) (C : World → (Nat → Value) → α → Prop) (w : World) (v : Value) (l : List α) : Prop :=
  ∃ ad c f b off, v = .slice ad l.length c ∧ Rw w ad l.length k f b off ∧ (ad = none → c = 0) ∧ l.length ≤ c ∧ l.length ≤ 140737488351232 ∧ ∀ i x, l[i]? = some x → C w (f i) x
theorem RowsOf.map {α : Type} {k : Nat} {C : World → (Nat → Value) → α → Prop} {w w' : World} {v : Value} {l : List α} (h : RowsOf k C w v l) (hb : Below w.heap.size w w') (hC : ∀ x a, C w x a → C w' x a) : RowsOf k C w' v l := by
  obtain ⟨ad, c, f, b, off, h1, h2, h3, h4, h5, h6⟩ := h
  exact ⟨ad, c, f, b, off, h1, h2.below hb, h3, h4, h5, fun i x hx => hC _ _ (h6 i x hx)⟩
def SpanC (_ : World) (x : Nat → Value) (s : Int × Int) : Prop := x 0 = .int .i64 s.1 ∧ x 1 = .int .i64 s.2
def RelC (w : World) (x : Nat → Value) (r : Rel) : Prop := x 0 = .int .i64 r.op ∧ x 1 = .int .i64 r.md ∧ x 2 = .bool r.neg ∧ RowsOf 2 SpanC w (x 3) r.sp
def RelsC (w : World) (x : Nat → Value) (l : List Rel) : Prop := RowsOf 4 RelC w (x 0) l
/-- a condition -/
def CondAt (w : World) (v : Value) (c : List (List Rel)) : Prop := RowsOf 1 RelsC w v c
def RuleC (w : World) (x : Nat → Value) (r : ByteArray × List (List Rel)) : Prop := x 0 = .string r.1 ∧ CondAt w (x 1) r.2
/-- a list of rules -/
def RulesAt (w : World) (v : Value) (l : List (ByteArray × List (List Rel))) : Prop := RowsOf 2 RuleC w v l
theorem RelC.below {w w' : World} {x : Nat → Value} {r : Rel} (h : RelC w x r) (hb : Below w.heap.size w w') : RelC w' x r := ⟨h.1, h.2.1, h.2.2.1, h.2.2.2.map hb fun _ _ h => h⟩
theorem RelsC.below {w w' : World} {x : Nat → Value} {l : List Rel} (h : RelsC w x l) (hb : Below w.heap.size w w') : RelsC w' x l := RowsOf.map h hb fun _ _ h => h.below hb
theorem CondAt.below {w w' : World} {v : Value} {c : List (List Rel)} (h : CondAt w v c) (hb : Below w.heap.size w w') : CondAt w' v c := RowsOf.map h hb fun _ _ h => h.below hb
theorem RuleC.below {w w' : World} {x : Nat → Value} {r : ByteArray × List (List Rel)} (h : RuleC w x r) (hb : Below w.heap.size w w') : RuleC w' x r := ⟨h.1, h.2.below hb⟩
theorem RulesAt.below {w w' : World} {v : Value} {l : List (ByteArray × List (List Rel))} (h : RulesAt w v l) (hb : Below w.heap.size w w') : RulesAt w' v l := RowsOf.map h hb fun _ _ h => h.below hb
theorem RulesAt.nil (w : World) : RulesAt w (.slice none 0 0) [] := ⟨none, 0, fun _ _ => undef, 0, 0, rfl, ⟨Nat.zero_le _, fun h => absurd rfl h, fun i j hi => absurd hi (Nat.not_lt_zero _)⟩, fun _ => rfl, Nat.le_refl _, Nat.zero_le _, fun i x h => (by simp at h)⟩

def permV (op md : Int) : Bool :=
  if op = 1 ∨ op = 2 then [2, 3, 4, 5, 6, 10, 20, 25, 50, 100].contains md else if op = 5 ∨ op = 6 then [10, 100].contains md else false
def greatV (op : Int) : Int := if op = 3 ∨ op = 4 then 6 else 100
def spanOk (op : Int) (s : Int × Int) : Bool := decide (0 ≤ s.1) && decide (s.1 ≤ s.2) && decide (s.2 ≤ greatV op)
/-- whether a relation is valid -/
def properV (r : Rel) : Bool := decide (1 ≤ r.op) && decide (r.op ≤ 6) && (decide (r.md = 0) || permV r.op r.md) && decide (1 ≤ r.sp.length) && decide (r.sp.length ≤ 4) && r.sp.all (spanOk r.op)
def listOk (l : List Rel) : Bool := !l.isEmpty && l.all properV
/-- the number of relations -/
def relN (c : List (List Rel)) : Nat := (c.map List.length).sum
/-- whether a condition is valid -/
def validC (c : List (List Rel)) : Bool := c.all listOk && !c.isEmpty && decide (relN c ≤ 6)
def knownC (s : ByteArray) : Bool := [bs [122, 101, 114, 111], bs [111, 110, 101], bs [116, 119, 111], bs [102, 101, 119], bs [109, 97, 110, 121]].contains s
/-- the i-th rule is valid, and has another class than those ahead of it -/
def ruleOk (rs : List (ByteArray × List (List Rel))) (i : Nat) : Bool :=
  let r := rs.getD i (.empty, [])
  knownC r.1 && validC r.2 && !((rs.take i).any fun x => x.1 == r.1)
/-- whether rules are valid -/
def validR (rs : List (ByteArray × List (List Rel))) : Bool := (List.range rs.length).all (ruleOk rs)

end Go.Proofs.YtmleeodfmmpdgaaGreatDoor
/- Plain: what the functions on numbers answer. -/
namespace Go.Proofs.YtmleeodfmmpdgaaGreatDoor
end Go.Proofs.YtmleeodfmmpdgaaGreatDoor
/- Plain: the class of a number, and the key that a value chooses. -/
namespace Go.Proofs.YtmleeodfmmpdgaaGreatDoor
open Go.RowKit

/-- a value: its name, type, text, date, and list -/
structure Vl where
  nm : ByteArray
  ty : Int
  tx : ByteArray
  dt : Int
  li : List ByteArray
/-- a string of a machine's size -/
def StrC (_ : World) (x : Nat → Value) (s : ByteArray) : Prop := x 0 = .string s ∧ s.size ≤ 140737488351232
/-- the five cells of a value -/
def ValC (w : World) (x : Nat → Value) (v : Vl) : Prop := x 0 = .string v.nm ∧ v.nm.size ≤ 140737488351232 ∧ x 1 = .int .i64 v.ty ∧ x 2 = .string v.tx ∧ v.tx.size ≤ 140737488351232 ∧ x 3 = .int .i64 v.dt ∧ RowsOf 1 StrC w (x 4) v.li
theorem ValC.below {w w' : World} {x : Nat → Value} {v : Vl} (h : ValC w x v) (hb : Below w.heap.size w w') : ValC w' x v :=
  ⟨h.1, h.2.1, h.2.2.1, h.2.2.2.1, h.2.2.2.2.1, h.2.2.2.2.2.1, h.2.2.2.2.2.2.map hb fun _ _ h => h⟩
/-- values -/
def ValsAt (w : World) (v : Value) (l : List Vl) : Prop := RowsOf 5 ValC w v l
theorem ValsAt.below {w w' : World} {v : Value} {l : List Vl} (h : ValsAt w v l) (hb : Below w.heap.size w w') : ValsAt w' v l := RowsOf.map h hb fun _ _ h => h.below hb
/-- the sixteen cells of a locale, of which the third and the fourth are rules -/
def LocC (w : World) (x : Nat → Value) (a b : List (ByteArray × List (List Rel))) : Prop := RulesAt w (x 3) a ∧ RulesAt w (x 4) b
theorem LocC.below {w w' : World} {x : Nat → Value} {a b : List (ByteArray × List (List Rel))} (h : LocC w x a b) (hb : Below w.heap.size w w') : LocC w' x a b := ⟨h.1.below hb, h.2.below hb⟩
def properVl (v : Vl) : Bool :=
  if v.ty = 1 then decide (v.dt = 0) && decide (v.li.length = 0)
  else if v.ty = 2 then dOk v.tx.data.toList && decide (v.dt = 0) && decide (v.li.length = 0)
  else if v.ty = 3 then decide (v.tx.size = 0) && decide (v.li.length = 0)
  else if v.ty = 4 then decide (v.tx.size = 0) && decide (v.dt = 0)
  else false
/-- whether a value is suitable for a kind -/
def suitV (kind : Int) (v : Vl) : Bool := properVl v && decide (v.ty = if kind = 9 then 1 else 2)
/-- the error ahead of the choice, 0 if there is none -/
def ahead (kind : Int) (rs : List (ByteArray × List (List Rel))) (v : Option Vl) : Nat :=
  if ¬ (7 ≤ kind ∧ kind ≤ 9) then 1 else if validR rs = false then 18 else match v with
    | none => 12
    | some v => if suitV kind v then 0 else 11
end Go.Proofs.YtmleeodfmmpdgaaGreatDoor
/- Walks: slices.IndexFunc and ContainsFunc at structs, Index and Contains at integers and strings. -/
namespace Go.Proofs.YtmleeodfmmpdgaaGreatDoor
open Go.RowKit
attribute [local go_sem] Ext.cell Ext.frozen
attribute [local go_sem ↓] Go.wp_at_zero Go.wp_at_succ

/-- the first number below n of which p holds, or -1 -/
def idxP (p : Nat → Bool) (n : Nat) : Int := match (List.range n).find? p with
  | some i => (i : Int)
  | none => -1
/-- whether p holds of a number below n -/
def anyP (p : Nat → Bool) (n : Nat) : Bool := (List.range n).any p
theorem idxP_hit {p : Nat → Bool} {n k : Nat} (hk : k < n) (hp : p k = true) (h : ∀ i, i < k → p i = false) : idxP p n = k := by
  have e : List.range n = List.range k ++ k :: List.range' (k + 1) (n - k - 1) := by
    rw [List.range_eq_range', List.range_eq_range', ← List.range'_succ, show n - k - 1 + 1 = n - k from by omega]
    have := List.range'_append (s := 0) (m := k) (n := n - k) (step := 1)
    rw [show 0 + 1 * k = k from by omega, show k + (n - k) = n from by omega] at this
    exact this.symm
  have h0 : (List.range k).find? p = none := List.find?_eq_none.2 fun i hi => by rw [h i (List.mem_range.1 hi)]; simp
  unfold idxP
  rw [e, List.find?_append, h0, List.find?_cons_of_pos hp]
  rfl
theorem idxP_miss {p : Nat → Bool} {n : Nat} (h : ∀ i, i < n → p i = false) : idxP p n = -1 := by
  have h0 : (List.range n).find? p = none := List.find?_eq_none.2 fun i hi => by rw [h i (List.mem_range.1 hi)]; simp
  unfold idxP
  rw [h0]
theorem idxP_cases (p : Nat → Bool) (n : Nat) : (∃ k, k < n ∧ p k = true ∧ (∀ i, i < k → p i = false) ∧ idxP p n = k) ∨ (∀ i, i < n → p i = false) ∧ idxP p n = -1 := by
  by_cases h : ∃ k, k < n ∧ p k = true
  · obtain ⟨k, hk, hp⟩ := h
    have : ∃ k, (k < n ∧ p k = true) ∧ ∀ i, i < k → ¬ (i < n ∧ p i = true) := by
      induction k using Nat.strongRecOn with
      | ind k ih =>
        by_cases h2 : ∃ j, j < k ∧ (j < n ∧ p j = true)
        · obtain ⟨j, hj, hjn, hjp⟩ := h2
          exact ih j hj hjn hjp
        · exact ⟨k, ⟨hk, hp⟩, fun i hi hc => h2 ⟨i, hi, hc⟩⟩
    obtain ⟨k, ⟨hk, hp⟩, hm⟩ := this
    have hm2 : ∀ i, i < k → p i = false := fun i hi => by
      cases e : p i with
      | false => rfl
      | true => exact absurd ⟨by omega, e⟩ (hm i hi)
    exact .inl ⟨k, hk, hp, hm2, idxP_hit hk hp hm2⟩
  · have hm : ∀ i, i < n → p i = false := fun i hi => by
      cases e : p i with
      | false => rfl
      | true => exact absurd ⟨i, hi, e⟩ h
    exact .inr ⟨hm, idxP_miss hm⟩
theorem anyP_idx (p : Nat → Bool) (n : Nat) : decide (0 ≤ idxP p n) = anyP p n := by
  rcases idxP_cases p n with ⟨k, hk, hp, _, e⟩ | ⟨hm, e⟩
  · rw [e, show anyP p n = true from List.any_eq_true.2 ⟨k, List.mem_range.2 hk, hp⟩]
    simp
  · rw [e, show anyP p n = false from by
      unfold anyP
      rw [← Bool.not_eq_true, List.any_eq_true]
      rintro ⟨i, hi, hp⟩
      rw [hm i (List.mem_range.1 hi)] at hp
      cases hp]
    rfl
theorem anyP_list {α : Type} (q : α → Bool) (l : List α) (d : α) : anyP (fun i => q (l.getD i d)) l.length = l.any q := by
  rw [Bool.eq_iff_iff]
  unfold anyP
  rw [List.any_eq_true, List.any_eq_true]
  constructor
  · rintro ⟨i, hi, h⟩
    exact ⟨_, getD_mem l i d (List.mem_range.1 hi), h⟩
  · rintro ⟨x, hx, h⟩
    obtain ⟨i, hi, rfl⟩ := List.getElem_of_mem hx
    exact ⟨i, List.mem_range.2 hi, by simpa [List.getD, List.getElem?_eq_getElem hi] using h⟩
set_option maxRecDepth 20000 in
theorem idx_Rule (p : Nat → Bool) (g : Nat) (lb : Array Value) (eg : ∀ args w, (callFunc g args).run Tryz.prog w = .ok (.enter g args) w) (ad : Option Addr) (n c : Nat) (f : Nat → Nat → Value) (b off : Nat) (w : World) (hr : Rw w ad n 2 f b off)
    (hp : ∀ W i, i < n → Below w.heap.size w W → Calls Tryz.prog g (#[.agg #[f i 0, f i 1]] ++ lb) W fun e w' => e = .returned (.bool (p i)) ∧ Below W.heap.size W w') :
    Calls Tryz.prog 250 #[.slice ad n c, .func (.func g) #[] lb] w fun e w' => e = .returned (.int .i64 (idxP p n)) ∧ Below w.heap.size w w' := by
  have HR := Lib.hid hr
  have HP := Lib.hid hp
  have hm := hr.max
  clear hr hp
  go_enter Tryz.func250, Tryz.ntmps250
  go_wp2_with fail
  go_loopw [5, 8] (fun _ v wr => ∃ k : Nat, v = .int .i64 (k : Int) ∧ k ≤ n ∧ (∀ i, i < k → p i = false) ∧ Below w.heap.size w wr) (fun _ v _ => n - (intOf v).toNat)
  case atStart => exact ⟨0, rfl, Nat.zero_le _, fun i hi => absurd hi (Nat.not_lt_zero _), Below.refl _ _⟩
  case round =>
    obtain ⟨k, rfl, hkn, hm0, hbl⟩ := hrel
    have HM := Lib.hid hm0
    have HBL := Lib.hid hbl
    clear hm0 hbl
    by_cases hlt : k < n
    · have HRR := Lib.hid (HR.out.below HBL.out)
      have hix := fun W => HRR.out.ix 38 51 Tryz.underlying38 (by kernel_rfl) (by omega) hlt c W
      have c0 : wr.cell? ⟨b, off + k * 2, none⟩ = some (f k 0) := HRR.out.cell k 0 hlt (by omega)
      have c1 : wr.cell? ⟨b, off + k * 2 + 1, none⟩ = some (f k 1) := HRR.out.cell k 1 hlt (by omega)
      have HCALL := Lib.hid (HP.out wr k hlt HBL.out)
      clear HRR
      cases hq : p k with
      | true =>
        have HQ := Lib.hid hq
        rw [Hid, hq] at HCALL
        clear hq
        go_wp2_with (go_at_fn g; refine HCALL.mono ?_; rintro e w' ⟨rfl, hb'⟩)
        go_ret
        exact ⟨ret_int (idxP_hit hlt HQ.out HM.out).symm, HBL.out.trans (hb'.mono HBL.out.size)⟩
      | false =>
        have HQ := Lib.hid hq
        rw [Hid, hq] at HCALL
        clear hq
        go_wp2_with (go_at_fn g; refine HCALL.mono ?_; rintro e w' ⟨rfl, hb'⟩)
        go_roundw
        case rel =>
          refine ⟨k + 1, by go_num, by omega, fun i hi => ?_, HBL.out.trans (hb'.mono HBL.out.size)⟩
          by_cases e : i = k
          · subst e; exact HQ.out
          · exact HM.out i (by omega)
        case measure => simp [intOf]; omega
    · obtain rfl : k = n := by omega
      go_wp2_with fail
      go_ret
      exact ⟨ret_int (idxP_miss HM.out).symm, HBL.out⟩

theorem cont_Rule (p : Nat → Bool) (g : Nat) (lb : Array Value) (eg : ∀ args w, (callFunc g args).run Tryz.prog w = .ok (.enter g args) w) (ad : Option Addr) (n c : Nat) (f : Nat → Nat → Value) (b off : Nat) (w : World) (hr : Rw w ad n 2 f b off)
    (hp : ∀ W i, i < n → Below w.heap.size w W → Calls Tryz.prog g (#[.agg #[f i 0, f i 1]] ++ lb) W fun e w' => e = .returned (.bool (p i)) ∧ Below W.heap.size W w') :
    Calls Tryz.prog 198 #[.slice ad n c, .func (.func g) #[] lb] w fun e w' => e = .returned (.bool (anyP p n)) ∧ Below w.heap.size w w' := by
  have HC := Lib.hid (idx_Rule p g lb eg ad n c f b off w hr hp)
  clear hr hp eg
  rw [← anyP_idx]
  generalize idxP p n = z at *
  go_enter Tryz.func198, Tryz.ntmps198
  go_wp2_with (go_at_call 250; refine HC.out.mono ?_; rintro e w' ⟨rfl, hb'⟩)
  go_ret
  exact ⟨rfl, hb'⟩

/-- the place of a string in a row -/
def idxS (ss : List ByteArray) (x : ByteArray) : Int := idxP (fun i => decide (ss.getD i .empty = x)) ss.length
def idxI (zs : List Int) (x : Int) : Int := idxP (fun i => decide (zs.getD i 0 = x)) zs.length
theorem any_contains {α : Type} [DecidableEq α] [BEq α] [LawfulBEq α] (l : List α) (x d : α) : anyP (fun i => decide (l.getD i d = x)) l.length = l.contains x := by
  rw [anyP_list (fun y => decide (y = x)), Bool.eq_iff_iff, List.any_eq_true, List.contains_iff_mem]
  constructor
  · rintro ⟨y, hy, e⟩
    rw [← of_decide_eq_true e]; exact hy
  · exact fun h => ⟨x, h, decide_eq_true rfl⟩

set_option maxRecDepth 20000 in
theorem index_int (ad : Option Addr) (n c : Nat) (l : List Int) (x : Int) (w : World) (hr : Sl w ad n (ints l)) :
    Calls Tryz.prog 317 #[.slice ad n c, .int .i64 x] w fun e w' => e = .returned (.int .i64 (idxI l x)) ∧ w = w' := by
  obtain ⟨b, off, hr⟩ := hr
  have hn : l.length = n := by have := hr.len; rwa [ints_length] at this
  have HN := Lib.hid hn
  have HR := Lib.hid hr
  have hm := hr.max
  clear hr hn
  go_enter Tryz.func317, Tryz.ntmps317
  go_wp2_with fail
  go_loop [5, 8] (fun _ v => ∃ k : Nat, v = .int .i64 (k : Int) ∧ k ≤ n ∧ (∀ i, i < k → decide (l.getD i 0 = x) = false)) (fun _ v => n - (intOf v).toNat)
  case atStart => exact ⟨0, rfl, Nat.zero_le _, fun i hi => absurd hi (Nat.not_lt_zero _)⟩
  case round =>
    obtain ⟨k, rfl, hkn, hm0⟩ := hrel
    have HM := Lib.hid hm0
    clear hm0
    by_cases hlt : k < n
    · have hix := fun W => HR.out.ix 182 3 Tryz.underlying182 (by kernel_rfl) hlt (c := c) W
      have hc := HR.out.cell k hlt
      rw [ints_getD _ _ (by rw [HN.out]; exact hlt)] at hc
      have HK : Hid (∀ b, (decide (l.getD k 0 = x)) = b → b = decide (l.getD k 0 = x)) := fun _ h => h.symm
      clear HK
      by_cases he : l.getD k 0 = x
      · have HE := Lib.hid (decide_eq_true he)
        generalize l.getD k 0 = y at hc he
        have e1 : (x == y) = true := by rw [he]; simp
        clear he
        go_wp2_with fail
        go_ret
        exact ⟨ret_int (idxP_hit (by rw [HN.out]; exact hlt) HE.out HM.out).symm, rfl⟩
      · have HE := Lib.hid (decide_eq_false he)
        generalize l.getD k 0 = y at hc he
        have e1 : (x == y) = false := by rw [beq_eq_false_iff_ne]; exact fun e => he e.symm
        clear he
        go_wp2_with fail
        go_round
        case rel =>
          refine ⟨k + 1, by go_num, by omega, fun i hi => ?_⟩
          by_cases e : i = k
          · subst e; exact HE.out
          · exact HM.out i (by omega)
        case measure => simp [intOf]; omega
    · obtain rfl : k = n := by omega
      go_wp2_with fail
      go_ret
      exact ⟨ret_int (idxP_miss (by rw [HN.out]; exact HM.out)).symm, rfl⟩
theorem contains_int (ad : Option Addr) (n c : Nat) (l : List Int) (x : Int) (w : World) (hr : Sl w ad n (ints l)) :
    Calls Tryz.prog 294 #[.slice ad n c, .int .i64 x] w fun e w' => e = .returned (.bool (l.contains x)) ∧ w = w' := by
  have HC := Lib.hid (index_int ad n c l x w hr)
  clear hr
  rw [← any_contains l x 0, ← anyP_idx]
  change Calls Tryz.prog 294 #[.slice ad n c, .int .i64 x] w fun e w' => e = .returned (.bool (decide (0 ≤ idxI l x))) ∧ w = w'
  generalize idxI l x = z at *
  go_enter Tryz.func294, Tryz.ntmps294
  go_wp2_with (go_at_call 317; refine HC.out.mono ?_; rintro e _ ⟨rfl, rfl⟩)
  go_ret
  exact ⟨rfl, rfl⟩

set_option maxRecDepth 20000 in
theorem index_str (ad : Option Addr) (n c : Nat) (l : List ByteArray) (x : ByteArray) (w : World) (hr : Sl w ad n (strs l)) :
    Calls Tryz.prog 144 #[.slice ad n c, .string x] w fun e w' => e = .returned (.int .i64 (idxS l x)) ∧ w = w' := by
  obtain ⟨b, off, hr⟩ := hr
  have hn : l.length = n := by have := hr.len; rwa [strs_length] at this
  have HN := Lib.hid hn
  have HR := Lib.hid hr
  have hm := hr.max
  clear hr hn
  go_enter Tryz.func144, Tryz.ntmps144
  go_wp2_with fail
  go_loop [5, 8] (fun _ v => ∃ k : Nat, v = .int .i64 (k : Int) ∧ k ≤ n ∧ (∀ i, i < k → decide (l.getD i .empty = x) = false)) (fun _ v => n - (intOf v).toNat)
  case atStart => exact ⟨0, rfl, Nat.zero_le _, fun i hi => absurd hi (Nat.not_lt_zero _)⟩
  case round =>
    obtain ⟨k, rfl, hkn, hm0⟩ := hrel
    have HM := Lib.hid hm0
    clear hm0
    by_cases hlt : k < n
    · have hix := fun W => HR.out.ix 44 9 Tryz.underlying44 (by kernel_rfl) hlt (c := c) W
      have hc := HR.out.cell k hlt
      rw [strs_getD _ _ (by rw [HN.out]; exact hlt)] at hc
      have HK : Hid (∀ b, (decide (l.getD k .empty = x)) = b → b = decide (l.getD k .empty = x)) := fun _ h => h.symm
      clear HK
      by_cases he : l.getD k .empty = x
      · have HE := Lib.hid (decide_eq_true he)
        generalize l.getD k .empty = y at hc he
        have e1 : (x.toList == y.toList) = true := by rw [he]; simp
        clear he
        go_wp2_with fail
        go_ret
        exact ⟨ret_int (idxP_hit (by rw [HN.out]; exact hlt) HE.out HM.out).symm, rfl⟩
      · have HE := Lib.hid (decide_eq_false he)
        generalize l.getD k .empty = y at hc he
        have e1 : (x.toList == y.toList) = false := by rw [beq_eq_false_iff_ne]; exact fun e => he (ByteArray.ext (by simpa [ByteArray.toList_eq] using e.symm))
        clear he
        go_wp2_with fail
        go_round
        case rel =>
          refine ⟨k + 1, by go_num, by omega, fun i hi => ?_⟩
          by_cases e : i = k
          · subst e; exact HE.out
          · exact HM.out i (by omega)
        case measure => simp [intOf]; omega
    · obtain rfl : k = n := by omega
      go_wp2_with fail
      go_ret
      exact ⟨ret_int (idxP_miss (by rw [HN.out]; exact HM.out)).symm, rfl⟩
theorem contains_str (ad : Option Addr) (n c : Nat) (l : List ByteArray) (x : ByteArray) (w : World) (hr : Sl w ad n (strs l)) :
    Calls Tryz.prog 95 #[.slice ad n c, .string x] w fun e w' => e = .returned (.bool (l.contains x)) ∧ w = w' := by
  have HC := Lib.hid (index_str ad n c l x w hr)
  clear hr
  rw [← any_contains l x .empty, ← anyP_idx]
  change Calls Tryz.prog 95 #[.slice ad n c, .string x] w fun e w' => e = .returned (.bool (decide (0 ≤ idxS l x))) ∧ w = w'
  generalize idxS l x = z at *
  go_enter Tryz.func95, Tryz.ntmps95
  go_wp2_with (go_at_call 144; refine HC.out.mono ?_; rintro e _ ⟨rfl, rfl⟩)
  go_ret
  exact ⟨rfl, rfl⟩

end Go.Proofs.YtmleeodfmmpdgaaGreatDoor
