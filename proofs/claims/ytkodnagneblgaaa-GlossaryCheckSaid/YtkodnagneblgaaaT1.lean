/- Tables in memory: slices of structs, whatever the number of their cells. -/
import Derived.Test.YtkodnagneblgaaaK
import Derived.Test.YtkodnagneblgaaaP1
namespace Go.Proofs.Ytkodnagneblgaaa
open Go.RowKit

/-- a slice of n elements of k cells each, from block b, offset off on: cell j of element i holds f i j -/
structure Rw (w : World) (ad : Option Addr) (n k : Nat) (f : Nat → Nat → Value) (b off : Nat) : Prop where
  max : n ≤ 9223372036854775807
  adr : n ≠ 0 → ad = some ⟨b, off, none⟩
  cell : ∀ i j, i < n → j < k → w.cell? ⟨b, off + i * k + j, none⟩ = some (f i j)
theorem Rw.block {w : World} {ad : Option Addr} {n k : Nat} {f b off} (h : Rw w ad n k f b off) (hn : n ≠ 0) (hk : k ≠ 0) : b < w.heap.size :=
  World.block_lt_of_cell? w _ (h.cell 0 0 (by omega) (by omega))
theorem Rw.below {w w' : World} {ad : Option Addr} {n k : Nat} {f b off} (h : Rw w ad n k f b off) (hb : Below w.heap.size w w') : Rw w' ad n k f b off :=
  ⟨h.max, h.adr, fun i j hi hj => by rw [hb.cell (p := ⟨b, off + i * k + j, none⟩) (h.block (by omega) (by omega))]; exact h.cell i j hi hj⟩
theorem Rw.ix {P : Program} {w : World} {ad : Option Addr} {n k : Nat} {f b off} (h : Rw w ad n k f b off) (T E : TypeId) (hT : P.underlying T = some (.slice E)) (hE : P.cellsOf E = k) (hk : 0 < k) {i : Nat} (hi : i < n) (c : Nat) (W : World) :
    (Instr.indexAt T (.slice ad n c) (.int .i64 (i : Int))).run P W = .ok (.pointer (some ⟨b, off + i * k, none⟩)) W := by
  rw [h.adr (by omega)]
  have hel : P.elem T = E := by simp [Program.elem, hT]
  rw [run_indexAt_slice W T _ n c .i64 i (by rw [hel]; exact hT), hel, if_pos (by omega)]
  have hs : (sizeOf E).run P W = .ok k W := by
    unfold Program.cellsOf at hE
    cases hi' : P.info? E with
    | none => simp [hi'] at hE; omega
    | some q => simp [hi'] at hE; simp [sizeOf, typeInfo, hi', hE]
  rw [hs]
  simp only [Result.andThen, Addr.add]
  by_cases h0 : i * k = 0
  · simp [h0]
  · simp [h0]
/-- a slice of structs of k strings -/
def StrRows (w : World) (k : Nat) (v : Value) : Prop := ∃ ad n c, ∃ g : Nat → Nat → ByteArray, ∃ b off, v = .slice ad n c ∧ Rw w ad n k (fun i j => .string (g i j)) b off
/-- a slice of relations: its fourth field is a slice -/
def RelRows (w : World) (v : Value) : Prop := ∃ ad n c f b off, v = .slice ad n c ∧ Rw w ad n 4 f b off ∧ ∀ i, i < n → ∃ a m c', f i 3 = .slice a m c' ∧ m ≤ 9223372036854775807
/-- a condition -/
def CondOk (w : World) (v : Value) : Prop := ∃ ad n c f b off, v = .slice ad n c ∧ Rw w ad n 1 f b off ∧ ∀ i, i < n → RelRows w (f i 0)
/-- a slice of rules -/
def RuleRows (w : World) (v : Value) : Prop := ∃ ad n c f b off, v = .slice ad n c ∧ Rw w ad n 2 f b off ∧ (ad = none → c = 0) ∧ ∀ i, i < n → (∃ s, f i 0 = .string s) ∧ CondOk w (f i 1)
theorem StrRows.below {w w' : World} {k : Nat} {v : Value} (h : StrRows w k v) (hb : Below w.heap.size w w') : StrRows w' k v := by
  obtain ⟨ad, n, c, g, b, off, h1, h2⟩ := h
  exact ⟨ad, n, c, g, b, off, h1, h2.below hb⟩
theorem RelRows.below {w w' : World} {v : Value} (h : RelRows w v) (hb : Below w.heap.size w w') : RelRows w' v := by
  obtain ⟨ad, n, c, f, b, off, h1, h2, h3⟩ := h
  exact ⟨ad, n, c, f, b, off, h1, h2.below hb, h3⟩
theorem CondOk.below {w w' : World} {v : Value} (h : CondOk w v) (hb : Below w.heap.size w w') : CondOk w' v := by
  obtain ⟨ad, n, c, f, b, off, h1, h2, h3⟩ := h
  exact ⟨ad, n, c, f, b, off, h1, h2.below hb, fun i hi => (h3 i hi).below hb⟩
theorem RuleRows.below {w w' : World} {v : Value} (h : RuleRows w v) (hb : Below w.heap.size w w') : RuleRows w' v := by
  obtain ⟨ad, n, c, f, b, off, h1, h2, h3, h4⟩ := h
  exact ⟨ad, n, c, f, b, off, h1, h2.below hb, h3, fun i hi => ⟨(h4 i hi).1, (h4 i hi).2.below hb⟩⟩
/-- a locale's sixteen cells -/
structure LocOk (w : World) (x : Nat → Value) : Prop where
  s0 : ∃ s, x 0 = .string s
  s1 : ∃ s, x 1 = .string s
  s2 : ∃ s, x 2 = .string s
  r3 : RuleRows w (x 3)
  r4 : RuleRows w (x 4)
  s5 : ∃ s, x 5 = .string s
  s6 : ∃ s, x 6 = .string s
  s7 : ∃ s, x 7 = .string s
  s8 : ∃ s, x 8 = .string s
  i9 : ∃ z, x 9 = .int .i64 z
  i10 : ∃ z, x 10 = .int .i64 z
  l11 : StrRows w 5 (x 11)
  u12 : StrRows w 3 (x 12)
  d13 : StrRows w 2 (x 13)
  m14 : StrRows w 1 (x 14)
  m15 : StrRows w 1 (x 15)
theorem LocOk.below {w w' : World} {x : Nat → Value} (h : LocOk w x) (hb : Below w.heap.size w w') : LocOk w' x :=
  ⟨h.s0, h.s1, h.s2, h.r3.below hb, h.r4.below hb, h.s5, h.s6, h.s7, h.s8, h.i9, h.i10, h.l11.below hb, h.u12.below hb, h.d13.below hb, h.m14.below hb, h.m15.below hb⟩
/-- a table: its locales, aliases and near entries -/
structure TabOk (w : World) (v0 v1 v2 : Value) : Prop where
  locs : ∃ ad n c f b off, v0 = .slice ad n c ∧ Rw w ad n 16 f b off ∧ ∀ i, i < n → LocOk w (f i)
  als : StrRows w 2 v1
  nears : ∃ ad n c f b off, v2 = .slice ad n c ∧ Rw w ad n 3 f b off ∧ ∀ i, i < n → (∃ s, f i 0 = .string s) ∧ (∃ s, f i 1 = .string s)
theorem TabOk.below {w w' : World} {v0 v1 v2 : Value} (h : TabOk w v0 v1 v2) (hb : Below w.heap.size w w') : TabOk w' v0 v1 v2 := by
  obtain ⟨⟨ad, n, c, f, b, off, h1, h2, h3⟩, h4, ⟨ad', n', c', f', b', off', h5, h6, h7⟩⟩ := h
  exact ⟨⟨ad, n, c, f, b, off, h1, h2.below hb, fun i hi => (h3 i hi).below hb⟩, h4.below hb, ⟨ad', n', c', f', b', off', h5, h6.below hb, h7⟩⟩
/-- some integer, and nothing that was there has changed -/
def SomeInt (w : World) (e : Ending) (w' : World) : Prop := ∃ z : Int, e = .returned (.int .i64 z) ∧ Below w.heap.size w w'
/-- some integer, the world as it was -/
def QInt (w : World) (e : Ending) (w' : World) : Prop := ∃ z : Int, e = .returned (.int .i64 z) ∧ w = w'
/-- some truth value, the world as it was -/
def QBool (w : World) (e : Ending) (w' : World) : Prop := ∃ b : Bool, e = .returned (.bool b) ∧ w = w'
/-- some truth value, and nothing that was there has changed -/
def SomeBool (w : World) (e : Ending) (w' : World) : Prop := ∃ b : Bool, e = .returned (.bool b) ∧ Below w.heap.size w w'
end Go.Proofs.Ytkodnagneblgaaa
