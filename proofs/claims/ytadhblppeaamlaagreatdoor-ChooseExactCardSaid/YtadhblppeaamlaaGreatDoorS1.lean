/- Rules in memory: conditions, and what they say. -/
import Derived.Test.YtadhblppeaamlaaGreatDoorT1
namespace Go.Proofs.YtadhblppeaamlaaGreatDoor
open Go.RowKit

instance : LawfulBEq ByteArray where
  eq_of_beq {a b} h := by
    have h : (a.data == b.data) = true := h
    have := eq_of_beq h
    cases a; cases b; simp_all
  rfl {a} := by
    show (a.data == a.data) = true
    exact beq_self_eq_true _
/-- a relation of a condition -/
structure Rel where
  op : Int
  md : Int
  neg : Bool
  sp : List (Int × Int)
/-- a slice of structs of k cells that reads as a list -/
def RowsOf {α : Type} (k : Nat) (C : World → (Nat → Value) → α → Prop) (w : World) (v : Value) (l : List α) : Prop :=
  ∃ ad c f b off, v = .slice ad l.length c ∧ Rw w ad l.length k f b off ∧ (ad = none → c = 0) ∧ l.length ≤ c ∧ l.length ≤ 140737488351232 ∧ ∀ i x, l[i]? = some x → C w (f i) x
theorem RowsOf.map {α : Type} {k : Nat} {C : World → (Nat → Value) → α → Prop} {w w' : World} {v : Value} {l : List α} (h : RowsOf k C w v l) (hb : Below w.heap.size w w') (hC : ∀ x a, C w x a → C w' x a) : RowsOf k C w' v l := by
  obtain ⟨ad, c, f, b, off, h1, h2, h3, h4, h5, h6⟩ := h
  exact ⟨ad, c, f, b, off, h1, h2.below hb, h3, h4, h5, fun i x hx => hC _ _ (h6 i x hx)⟩
def SpanC (_ : World) (x : Nat → Value) (s : Int × Int) : Prop := x 0 = .int .i64 s.1 ∧ x 1 = .int .i64 s.2
def RelC (w : World) (x : Nat → Value) (r : Rel) : Prop := x 0 = .int .i64 r.op ∧ x 1 = .int .i64 r.md ∧ x 2 = .bool r.neg ∧ RowsOf 2 SpanC w (x 3) r.sp
def RelsC (w : World) (x : Nat → Value) (l : List Rel) : Prop := RowsOf 4 RelC w (x 0) l
/-- a condition -/
def CondAt (w : World) (v : Value) (c : List (List Rel)) : Prop := RowsOf 1 RelsC w v c
def RuleC (w : World) (x : Nat → Value) (r : ByteArray × List (List Rel)) : Prop := x 0 = .string r.1 ∧ CondAt w (x 1) r.2
/-- a list of rules -/
def RulesAt (w : World) (v : Value) (l : List (ByteArray × List (List Rel))) : Prop := RowsOf 2 RuleC w v l
theorem RelC.below {w w' : World} {x : Nat → Value} {r : Rel} (h : RelC w x r) (hb : Below w.heap.size w w') : RelC w' x r := ⟨h.1, h.2.1, h.2.2.1, h.2.2.2.map hb fun _ _ h => h⟩
theorem RelsC.below {w w' : World} {x : Nat → Value} {l : List Rel} (h : RelsC w x l) (hb : Below w.heap.size w w') : RelsC w' x l := RowsOf.map h hb fun _ _ h => h.below hb
theorem CondAt.below {w w' : World} {v : Value} {c : List (List Rel)} (h : CondAt w v c) (hb : Below w.heap.size w w') : CondAt w' v c := RowsOf.map h hb fun _ _ h => h.below hb
theorem RuleC.below {w w' : World} {x : Nat → Value} {r : ByteArray × List (List Rel)} (h : RuleC w x r) (hb : Below w.heap.size w w') : RuleC w' x r := ⟨h.1, h.2.below hb⟩
theorem RulesAt.below {w w' : World} {v : Value} {l : List (ByteArray × List (List Rel))} (h : RulesAt w v l) (hb : Below w.heap.size w w') : RulesAt w' v l := RowsOf.map h hb fun _ _ h => h.below hb
theorem RulesAt.nil (w : World) : RulesAt w (.slice none 0 0) [] := ⟨none, 0, fun _ _ => undef, 0, 0, rfl, ⟨Nat.zero_le _, fun h => absurd rfl h, fun i j hi => absurd hi (Nat.not_lt_zero _)⟩, fun _ => rfl, Nat.le_refl _, Nat.zero_le _, fun i x h => (by simp at h)⟩

def permV (op md : Int) : Bool :=
  if op = 1 ∨ op = 2 then [2, 3, 4, 5, 6, 10, 20, 25, 50, 100].contains md else if op = 5 ∨ op = 6 then [10, 100].contains md else false
def greatV (op : Int) : Int := if op = 3 ∨ op = 4 then 6 else 100
def spanOk (op : Int) (s : Int × Int) : Bool := decide (0 ≤ s.1) && decide (s.1 ≤ s.2) && decide (s.2 ≤ greatV op)
/-- whether a relation is valid -/
def properV (r : Rel) : Bool := decide (1 ≤ r.op) && decide (r.op ≤ 6) && (decide (r.md = 0) || permV r.op r.md) && decide (1 ≤ r.sp.length) && decide (r.sp.length ≤ 4) && r.sp.all (spanOk r.op)
def listOk (l : List Rel) : Bool := !l.isEmpty && l.all properV
/-- the number of relations -/
def relN (c : List (List Rel)) : Nat := (c.map List.length).sum
/-- whether a condition is valid -/
def validC (c : List (List Rel)) : Bool := c.all listOk && !c.isEmpty && decide (relN c ≤ 6)
/-- whether a number lies in a span -/
def insideV (l : List (Int × Int)) (n : Int) : Bool := l.any fun s => decide (s.1 ≤ n) && decide (n ≤ s.2)
def knownC (s : ByteArray) : Bool := [bs [122, 101, 114, 111], bs [111, 110, 101], bs [116, 119, 111], bs [102, 101, 119], bs [109, 97, 110, 121]].contains s
def otherB : ByteArray := bs [111, 116, 104, 101, 114]
/-- the i-th rule is valid, and has another class than those ahead of it -/
def ruleOk (rs : List (ByteArray × List (List Rel))) (i : Nat) : Bool :=
  let r := rs.getD i (.empty, [])
  knownC r.1 && validC r.2 && !((rs.take i).any fun x => x.1 == r.1)
/-- whether rules are valid -/
def validR (rs : List (ByteArray × List (List Rel))) : Bool := (List.range rs.length).all (ruleOk rs)

theorem relN_snoc (c : List (List Rel)) (l : List Rel) : relN (c ++ [l]) = relN c + l.length := by simp [relN]
theorem relN_take {c : List (List Rel)} {k : Nat} {l : List Rel} (h : c[k]? = some l) : relN (c.take (k + 1)) = relN (c.take k) + l.length := by
  obtain ⟨hk, he⟩ := List.getElem?_eq_some_iff.1 h
  rw [List.take_succ_eq_append_getElem hk, relN_snoc, he]
theorem validR_all {rs : List (ByteArray × List (List Rel))} (h : validR rs = true) : ∀ r ∈ rs, validC r.2 = true := by
  intro r hr
  obtain ⟨i, hi, rfl⟩ := List.getElem_of_mem hr
  have := List.all_eq_true.1 h i (List.mem_range.2 hi)
  simp only [ruleOk, Bool.and_eq_true] at this
  have h2 := this.1.2
  simpa [List.getD, List.getElem?_eq_getElem hi] using h2
theorem validC_all {c : List (List Rel)} (h : validC c = true) : ∀ l ∈ c, ∀ r ∈ l, properV r = true := by
  intro l hl r hr
  simp only [validC, Bool.and_eq_true] at h
  have h1 := List.all_eq_true.1 h.1.1 l hl
  simp only [listOk, Bool.and_eq_true] at h1
  exact List.all_eq_true.1 h1.2 r hr
theorem perm_bd {op md : Int} (h : permV op md = true) : 2 ≤ md ∧ md ≤ 100 := by
  unfold permV at h
  split at h
  · simp at h
    omega
  · split at h
    · simp at h
      omega
    · cases h
theorem proper_md {r : Rel} (h : properV r = true) : r.md = 0 ∨ 2 ≤ r.md ∧ r.md ≤ 100 := by
  simp only [properV, Bool.and_eq_true, Bool.or_eq_true, decide_eq_true_eq] at h
  rcases h.1.1.1.2 with h | h
  · exact .inl h
  · exact .inr (perm_bd h)
end Go.Proofs.YtadhblppeaamlaaGreatDoor
