/- Plain lemmas on worlds, slices and contracts, over any program. -/
import Derived.Test.YtmleeodfmmpdgaaGreatDoorRows
import Derived.WalkKit
import Derived.WalkSpells
import Derived.WalkLawsBesides
import Derived.Lib.Hide
import Derived.BigQuiet
import Derived.Deep.QuietTactic
import Derived.Lib.ConvBytes
import Derived.Test.YtmleeodfmmpdgaaGreatDoorCards
import Derived.Test.YtmleeodfmmpdgaaGreatDoorTie
import Derived.ProofKit
import Derived.OpenShut
import Derived.ShutString
import Derived.ChangeOld
import Derived.Lib.SmallJoins
import Derived.LaidMore
import Derived.Lay
import Derived.SevenTiedAt
import Derived.Stop.Joined
import Derived.Lib.SlTrimSet
import Derived.Lib.Repeat
import Derived.Lib.Atoi
import Derived.Deep.Slices
import Derived.ChangeArms
import Derived.SizedLaws
namespace Go.Proofs.YtmleeodfmmpdgaaGreatDoor
open Go.RowKit

/-- The slice value '.slice ad n c' reads in w as the cells xs, from block b, offset off on. -/
structure SlAt (w : World) (ad : Option Addr) (n : Nat) (xs : List Value) (b off : Nat) : Prop where
  len : xs.length = n
  max : n ≤ 9223372036854775807
  adr : n ≠ 0 → ad = some ⟨b, off, none⟩
  cell : ∀ i (_h : i < n), w.cell? ⟨b, off + i, none⟩ = some (xs.getD i undef)

/-- .. from some place on. -/
def Sl (w : World) (ad : Option Addr) (n : Nat) (xs : List Value) : Prop := ∃ b off, SlAt w ad n xs b off

theorem SlAt.ix {P : Program} {w : World} {ad : Option Addr} {n c : Nat} {xs : List Value} {b off k : Nat} (h : SlAt w ad n xs b off) (T E : TypeId)
    (hT : P.underlying T = some (.slice E)) (hE : P.cellsOf E = 1) (hk : k < n) (W : World) :
    (Instr.indexAt T (.slice ad n c) (.int .i64 (k : Int))).run P W = .ok (.pointer (some ⟨b, off + k, none⟩)) W := by
  rw [h.adr (by omega)]
  have hel : P.elem T = E := by simp [Program.elem, hT]
  rw [run_indexAt_slice W T _ n c .i64 k (by rw [hel]; exact hT), hel, if_pos (by omega)]
  have hs : (sizeOf E).run P W = .ok 1 W := by
    unfold Program.cellsOf at hE
    cases hi : P.info? E with
    | none => simp [hi] at hE
    | some i => simp [hi] at hE; simp [sizeOf, typeInfo, hi, hE]
  rw [hs]
  simp [Result.andThen, Addr.add]

theorem SlAt.block {w : World} {ad : Option Addr} {n : Nat} {xs : List Value} {b off : Nat} (h : SlAt w ad n xs b off) (hn : n ≠ 0) : b < w.heap.size := by
  have := h.cell 0 (by omega)
  exact World.block_lt_of_cell? w _ this

theorem SlAt.below {w w' : World} {ad : Option Addr} {n : Nat} {xs : List Value} {b off : Nat} (h : SlAt w ad n xs b off) (hb : Below w.heap.size w w') : SlAt w' ad n xs b off :=
  ⟨h.len, h.max, h.adr, fun i hi => by rw [hb.cell (p := ⟨b, off + i, none⟩) (h.block (by omega))]; exact h.cell i hi⟩


/-- the numbers of a slice of int -/
def ints (zs : List Int) : List Value := zs.map (.int .i64)
theorem ints_length (zs : List Int) : (ints zs).length = zs.length := by simp [ints]
theorem ints_getD (zs : List Int) (k : Nat) (h : k < zs.length) : (ints zs).getD k undef = .int .i64 (zs.getD k 0) := by
  simp [ints, List.getD, List.getElem?_map, List.getElem?_eq_getElem h]
/-- the strings of a slice -/
def strs (ss : List ByteArray) : List Value := ss.map .string
theorem strs_length (ss : List ByteArray) : (strs ss).length = ss.length := by simp [strs]
theorem strs_getD (ss : List ByteArray) (k : Nat) (h : k < ss.length) : (strs ss).getD k undef = .string (ss.getD k .empty) := by
  simp [strs, List.getD, List.getElem?_map, List.getElem?_eq_getElem h]
theorem getD_mem {α : Type} (l : List α) (k : Nat) (d : α) (h : k < l.length) : l.getD k d ∈ l := by
  simp [List.getD, List.getElem?_eq_getElem h]

theorem ret_int {k : IntKind} {a b : Int} (h : a = b) : Ending.returned (.int k a) = .returned (.int k b) := by rw [h]
theorem Sl.below {w w' : World} {ad : Option Addr} {n : Nat} {xs : List Value} (h : Sl w ad n xs) (hb : Below w.heap.size w w') : Sl w' ad n xs := by
  obtain ⟨b, off, h⟩ := h
  exact ⟨b, off, h.below hb⟩

theorem Sl.alloc {w : World} {ad : Option Addr} {n : Nat} {xs : List Value} (h : Sl w ad n xs) (o : Obj) : Sl (w.alloc o) ad n xs := h.below ((Below.refl _ _).alloc (Nat.le_refl _) _)
theorem Sl.drewN {w : World} {ad : Option Addr} {n : Nat} {xs : List Value} (h : Sl w ad n xs) (k : Nat) : Sl (w.drewN k) ad n xs := h.below ⟨rfl, rfl, rfl, Nat.le_refl _, fun _ _ => rfl⟩
theorem Sl.len {w : World} {ad : Option Addr} {n : Nat} {xs : List Value} (h : Sl w ad n xs) : xs.length = n := by obtain ⟨b, off, h⟩ := h; exact h.len
theorem Sl.max {w : World} {ad : Option Addr} {n : Nat} {xs : List Value} (h : Sl w ad n xs) : n ≤ 9223372036854775807 := by obtain ⟨b, off, h⟩ := h; exact h.max

theorem bytes_below (w : World) (e : TypeId) (s : ByteArray) : Below w.heap.size w (Lib.bytesWorld w e s) :=
  ⟨rfl, rfl, rfl, by rw [Lib.bytesWorld_size]; omega, fun k hk => Lib.bytesWorld_at_old w e s k hk⟩

theorem ba_len (s : ByteArray) : s.data.toList.length = s.size := by rw [Array.length_toList]; rfl

/-- A world that has grown from w: what was there is as it was. -/
def Ext (w : World) := { x : World // Below w.heap.size w x }
instance (w : World) : Nonempty (Ext w) := ⟨⟨w, Below.refl _ _⟩⟩
theorem Ext.cell {w : World} (e : Ext w) (a : Addr) (h : a.block < w.heap.size) : e.1.cell? a = w.cell? a := e.2.cell h
theorem Ext.frozen {w : World} (e : Ext w) (a : Addr) (h : a.block < w.heap.size) : e.1.frozen? a = w.frozen? a := e.2.frozen h
theorem Calls.ext {P : Program} {f : FuncId} {args : Array Value} {w : World} {e : Ext w} {v : Value}
    (h : Calls P f args e.1 fun e' w' => e' = .returned v ∧ Below e.1.heap.size e.1 w') : Calls P f args e.1 fun e' w'' => e' = .returned v ∧ ∃ e2 : Ext w, w'' = e2.1 :=
  h.mono fun _ w' ⟨he, hb⟩ => ⟨he, ⟨w', e.2.trans (hb.mono e.2.size)⟩, rfl⟩
theorem Calls.ext_same {P : Program} {f : FuncId} {args : Array Value} {w : World} {e : Ext w} {v : Value}
    (h : Calls P f args e.1 fun e' w' => e' = .returned v ∧ e.1 = w') : Calls P f args e.1 fun e' w'' => e' = .returned v ∧ ∃ e2 : Ext w, w'' = e2.1 :=
  h.mono fun _ _w' ⟨he, hb⟩ => ⟨he, e, hb.symm⟩
/-- A region that draws its order, whose operations read, and whose callees make memory at most: one walk, in the order of the text. -/
theorem wp_region_ext {P : Program} {id : Nat} {Q : Exit → Act → World → Prop} {a : Act} {w : World} {l : List Oper} (hm : P.follows .mixedOrders = true) (hB : Region.lexB .any l.toArray = true)
    (h : wpQuiet P l.toArray (fun w' => ∃ e : Ext w, w' = e.1) (fun a' => ∀ w', (∃ e : Ext w, w' = e.1) → Q .normal a' w') l a) : (Code.region id l.toArray true).wp P Q a w :=
  wp_region_quiet (C := fun w' => ∃ e : Ext w, w' = e.1) hm hB ⟨⟨_, (Below.refl _ w).drew⟩, rfl⟩ (by simpa using h)
theorem Sl.ext {w : World} {ad : Option Addr} {n : Nat} {xs : List Value} (h : Sl w ad n xs) (e : Ext w) : Sl e.1 ad n xs := h.below e.2
/-- the block of a slice's address -/
theorem own_form {w : World} {base : Nat} {E : TypeId} {v : Value} {n : Nat} {xs : List Value} (h : w.ownsRow base E 1 v n xs) : ∃ ad c, v = .slice ad n c := by
  obtain ⟨_, ⟨rfl, rfl⟩ | ⟨g, cap, cur, rfl, _⟩⟩ := h
  · exact ⟨_, _, rfl⟩
  · exact ⟨_, _, rfl⟩

theorem Own.sl {w : World} {base : Nat} {E : TypeId} {ad : Option Addr} {n c : Nat} {xs : List Value} (h : w.ownsRow base E 1 (.slice ad n c) n xs) : Sl w ad n xs := by
  have hl : xs.length = n := by have := h.1; omega
  obtain ⟨_, ⟨h1, h2⟩ | ⟨g, cap, cur, h1, h2, h3, h4, h5, h6, h7⟩⟩ := h
  · subst h2
    exact ⟨0, 0, hl, by omega, fun h => absurd rfl h, fun i hi => absurd hi (Nat.not_lt_zero _)⟩
  · injection h1 with e1 e2 e3
    subst e1
    refine ⟨g, 0, hl, by unfold maxLen at h5; omega, fun _ => rfl, fun i hi => ?_⟩
    have hi' : i < cur.size := by omega
    have hx : xs.getD i undef = cur[i] := by
      rw [← h7]
      simp only [List.getD, Nat.mul_one]
      rw [List.getElem?_take, if_pos hi]
      simp [hi']
    rw [hx]
    simp [World.cell?, h3, hi']

theorem Own.lt {w : World} {base : Nat} {E : TypeId} {ad : Option Addr} {n c : Nat} {xs : List Value} (h : w.ownsRow base E 1 (.slice ad n c) n xs) :
    ∀ k, Value.ownBlock (.slice ad n c) = some k → base ≤ k ∧ k < w.heap.size := World.ownsRow.lt h

theorem Own.below {w w' : World} {base : Nat} {E : TypeId} {v : Value} {n : Nat} {xs : List Value} (h : w.ownsRow base E 1 v n xs) (hb : Below w.heap.size w w') : w'.ownsRow base E 1 v n xs := by
  refine ⟨h.1, ?_⟩
  rcases h.2 with h2 | ⟨g, cap, cur, h1, h2, h3, h4, h5, h6, h7⟩
  · exact .inl h2
  · have hg : g < w.heap.size := by
      rcases Nat.lt_or_ge g w.heap.size with h' | h'
      · exact h'
      · simp [Array.getElem?_eq_none h'] at h3
    exact .inr ⟨g, cap, cur, h1, h2, (hb.block g hg).trans h3, h4, h5, h6, h7⟩

/-- append of one element to a slice of the call's own -/
theorem wpList_app {P : Program} {ops : Array Oper} {rest : List Oper} {o : Oper} {a : Act} {Q : Exit → Act → World → Prop} {w : World} (t E : TypeId) (bytes : Nat)
    (ht : P.underlying t = some (.slice E)) (i : TypeInfo) (z : Value) (hi : P.info? E = some i) (hz : i.zero = some z) (hsize : i.size = 1) (hby : i.bytes = bytes) (hzs : z.cells.size = 1)
    (hgd : o.guard = none) (s x : Operand) (ho : o.op = .call { callee := .builtin .append, args := #[s, x], argTypes := #[t, t] })
    (base : Nat) (ad : Option Addr) (n c : Nat) (xs : List Value) (hs : a.eval s = .slice ad n c) (hown : w.ownsRow base E 1 (.slice ad n c) n xs)
    (y : Value) (E' : TypeId) (hx : a.eval x = .slice (some ⟨w.heap.size, 0, none⟩) 1 1) (hy : y.oneCell' = true)
    (h63 : n + 1 ≤ maxLen) (hbytes : (n + 1) * bytes ≤ 140737488355328) (hbase : base ≤ w.heap.size)
    (h : ∀ ad' c' w', w'.ownsRow base E 1 (.slice ad' (n + 1) c') (n + 1) (xs ++ [y]) → Below base w w' → w.grownBy w' (Value.ownBlock (.slice ad n c)) → w.heap.size < w'.heap.size →
      wpList P ops Q rest (a.put o.dst (.slice ad' (n + 1) c')) w') : wpList P ops Q (o :: rest) a (w.alloc (.cells #[y] E')) := by
  refine wpList_append_own _ hgd s x t ho base E i z 1 bytes ht hi hz hsize hby hzs (by omega) (.slice ad n c) n xs hs (World.ownsRow.alloc hown _) ⟨w.heap.size, 0, none⟩ 1 1 [y] hx rfl (cell_one_new _ _ _)
    (by simpa using hy) h63 hbytes (by simp; omega) ?_
  intro v' w' h1 h2 _
  obtain ⟨ad', c', rfl⟩ := own_form h1
  have hlt := Own.lt hown
  refine h ad' c' w' h1 ?_ ?_ (by have := h2.size; simp at this; omega)
  · exact ((Below.refl base w).alloc hbase _).grown h2 (by simp; omega) (fun k hk => (hlt k hk).1)
  · exact ⟨h2.os, h2.tape, h2.output, by have := h2.size; simp at this; omega, fun k hk hne => (h2.block k (by simp; omega) hne).trans (Below.heap_alloc _ _ _ hk)⟩

/-- nothing that was there has changed -/
def Bel (w X : World) : Prop := Below w.heap.size w X
theorem Bel.refl (w : World) : Bel w w := Below.refl _ _
theorem Bel.alloc {w X : World} (h : Bel w X) (o : Obj) : Bel w (X.alloc o) := Below.alloc h h.size _
theorem Bel.ext {w X : World} (h : Bel w X) (x : Ext X) : Bel w x.1 := Below.trans h (x.2.mono h.size)
theorem Bel.drewN {w X : World} (h : Bel w X) (n : Nat) : Bel w (X.drewN n) := Below.trans h ⟨rfl, rfl, rfl, Nat.le_refl _, fun _ _ => rfl⟩
theorem Bel.drew {w X : World} (h : Bel w X) : Bel w X.drew := Below.drew h
theorem Bel.setCell {w X : World} (h : Bel w X) (p : Addr) (v : Value) (hp : w.heap.size ≤ p.block) : Bel w (X.setCell p v) := Below.setCell h (p := p) hp v
theorem Bel.out {w X : World} (h : Bel w X) : Below w.heap.size w X := h
end Go.Proofs.YtmleeodfmmpdgaaGreatDoor
/- How the arguments of the laws are read. -/
namespace Go.Proofs.YtmleeodfmmpdgaaGreatDoor
open Go.ChangeShapes Go.WideShapes Go.ChangeAt Go.RowKit Go.Joins
theorem own : ownKnob Tryz.prog.godebug = none := by kernel_rfl
theorem laidOut : laidOutB Tryz.prog = true := by kernel_rfl
end Go.Proofs.YtmleeodfmmpdgaaGreatDoor
/- Plain: decimal numbers as lists of bytes. -/
namespace Go.Proofs.YtmleeodfmmpdgaaGreatDoor

/-- the string of a list of bytes -/
def bs (l : List UInt8) : ByteArray := ⟨l.toArray⟩
theorem bs_data (l : List UInt8) : (bs l).data.toList = l := rfl
theorem bs_size (l : List UInt8) : (bs l).size = l.length := by simp [bs, ByteArray.size]
theorem bs_toList (l : List UInt8) : (bs l).toList = l := by rw [ByteArray.toList_eq]; rfl
theorem bs_extract (l : List UInt8) (i j : Nat) : (bs l).extract i j = bs ((l.take j).drop i) := by
  apply ByteArray.ext
  have e : List.drop i (List.take (i + (j - i)) l) = List.drop i (List.take j l) := by
    by_cases h : i ≤ j
    · rw [show i + (j - i) = j by omega]
    · rw [List.drop_eq_nil_of_le (by rw [List.length_take]; omega), List.drop_eq_nil_of_le (by rw [List.length_take]; omega)]
  simp [bs, ByteArray.data_extract, List.take_drop, e]
def isD (c : UInt8) : Bool := decide (48 ≤ c.toNat) && decide (c.toNat ≤ 57)
def allD (l : List UInt8) : Bool := l.all isD
def allZ (l : List UInt8) : Bool := l.all (· == 48)
def dNeg (l : List UInt8) : Bool := l.head? == some 45
def dRest (l : List UInt8) : List UInt8 := if dNeg l then l.tail else l
def dWhole (l : List UInt8) : List UInt8 := (dRest l).takeWhile (· != 46)
def dPoint (l : List UInt8) : Bool := decide ((dWhole l).length < (dRest l).length)
def dFrac (l : List UInt8) : List UInt8 := (dRest l).drop ((dWhole l).length + 1)
def okW (w : List UInt8) : Bool := decide (1 ≤ w.length) && decide (w.length ≤ 15) && allD w && !(decide (1 < w.length) && w.head? == some 48)
def okF (p : Bool) (f : List UInt8) : Bool := !(p && f.isEmpty) && decide (f.length ≤ 6) && allD f
def dOk (l : List UInt8) : Bool := okW (dWhole l) && okF (dPoint l) (dFrac l) && !(dNeg l && (allZ (dWhole l) && allZ (dFrac l)))
theorem bs_self (s : ByteArray) : bs s.data.toList = s := rfl
end Go.Proofs.YtmleeodfmmpdgaaGreatDoor
/- Tables in memory: slices of structs, whatever the number of their cells. -/
namespace Go.Proofs.YtmleeodfmmpdgaaGreatDoor
open Go.RowKit

/-- a slice of n elements of k cells each, from block b, offset off on: cell j of element i holds f i j -/
structure Rw (w : World) (ad : Option Addr) (n k : Nat) (f : Nat → Nat → Value) (b off : Nat) : Prop where
  max : n ≤ 9223372036854775807
  adr : n ≠ 0 → ad = some ⟨b, off, none⟩
  cell : ∀ i j, i < n → j < k → w.cell? ⟨b, off + i * k + j, none⟩ = some (f i j)
theorem Rw.block {w : World} {ad : Option Addr} {n k : Nat} {f b off} (h : Rw w ad n k f b off) (hn : n ≠ 0) (hk : k ≠ 0) : b < w.heap.size :=
  World.block_lt_of_cell? w _ (h.cell 0 0 (by omega) (by omega))
theorem Rw.below {w w' : World} {ad : Option Addr} {n k : Nat} {f b off} (h : Rw w ad n k f b off) (hb : Below w.heap.size w w') : Rw w' ad n k f b off :=
  ⟨h.max, h.adr, fun i j hi hj => by rw [hb.cell (p := ⟨b, off + i * k + j, none⟩) (h.block (by omega) (by omega))]; exact h.cell i j hi hj⟩
theorem Rw.ix {P : Program} {w : World} {ad : Option Addr} {n k : Nat} {f b off} (h : Rw w ad n k f b off) (T E : TypeId) (hT : P.underlying T = some (.slice E)) (hE : P.cellsOf E = k) (hk : 0 < k) {i : Nat} (hi : i < n) (c : Nat) (W : World) :
    (Instr.indexAt T (.slice ad n c) (.int .i64 (i : Int))).run P W = .ok (.pointer (some ⟨b, off + i * k, none⟩)) W := by
  rw [h.adr (by omega)]
  have hel : P.elem T = E := by simp [Program.elem, hT]
  rw [run_indexAt_slice W T _ n c .i64 i (by rw [hel]; exact hT), hel, if_pos (by omega)]
  have hs : (sizeOf E).run P W = .ok k W := by
    unfold Program.cellsOf at hE
    cases hi' : P.info? E with
    | none => simp [hi'] at hE; omega
    | some q => simp [hi'] at hE; simp [sizeOf, typeInfo, hi', hE]
  rw [hs]
  simp only [Result.andThen, Addr.add]
  by_cases h0 : i * k = 0
  · simp [h0]
  · simp [h0]
/-- a slice of structs of k strings -/
def StrRows (w : World) (k : Nat) (v : Value) : Prop := ∃ ad n c, ∃ g : Nat → Nat → ByteArray, ∃ b off, v = .slice ad n c ∧ Rw w ad n k (fun i j => .string (g i j)) b off
/-- a slice of relations: its fourth field is a slice -/
def RelRows (w : World) (v : Value) : Prop := ∃ ad n c f b off, v = .slice ad n c ∧ Rw w ad n 4 f b off ∧ ∀ i, i < n → ∃ a m c', f i 3 = .slice a m c' ∧ m ≤ 9223372036854775807
/-- a condition -/
def CondOk (w : World) (v : Value) : Prop := ∃ ad n c f b off, v = .slice ad n c ∧ Rw w ad n 1 f b off ∧ ∀ i, i < n → RelRows w (f i 0)
/-- a slice of rules -/
def RuleRows (w : World) (v : Value) : Prop := ∃ ad n c f b off, v = .slice ad n c ∧ Rw w ad n 2 f b off ∧ (ad = none → c = 0) ∧ ∀ i, i < n → (∃ s, f i 0 = .string s) ∧ CondOk w (f i 1)
theorem StrRows.below {w w' : World} {k : Nat} {v : Value} (h : StrRows w k v) (hb : Below w.heap.size w w') : StrRows w' k v := by
  obtain ⟨ad, n, c, g, b, off, h1, h2⟩ := h
  exact ⟨ad, n, c, g, b, off, h1, h2.below hb⟩
theorem RelRows.below {w w' : World} {v : Value} (h : RelRows w v) (hb : Below w.heap.size w w') : RelRows w' v := by
  obtain ⟨ad, n, c, f, b, off, h1, h2, h3⟩ := h
  exact ⟨ad, n, c, f, b, off, h1, h2.below hb, h3⟩
theorem CondOk.below {w w' : World} {v : Value} (h : CondOk w v) (hb : Below w.heap.size w w') : CondOk w' v := by
  obtain ⟨ad, n, c, f, b, off, h1, h2, h3⟩ := h
  exact ⟨ad, n, c, f, b, off, h1, h2.below hb, fun i hi => (h3 i hi).below hb⟩
theorem RuleRows.below {w w' : World} {v : Value} (h : RuleRows w v) (hb : Below w.heap.size w w') : RuleRows w' v := by
  obtain ⟨ad, n, c, f, b, off, h1, h2, h3, h4⟩ := h
  exact ⟨ad, n, c, f, b, off, h1, h2.below hb, h3, fun i hi => ⟨(h4 i hi).1, (h4 i hi).2.below hb⟩⟩
/-- a locale's sixteen cells -/
structure LocOk (w : World) (x : Nat → Value) : Prop where
  s0 : ∃ s, x 0 = .string s
  s1 : ∃ s, x 1 = .string s
  s2 : ∃ s, x 2 = .string s
  r3 : RuleRows w (x 3)
  r4 : RuleRows w (x 4)
  s5 : ∃ s, x 5 = .string s
  s6 : ∃ s, x 6 = .string s
  s7 : ∃ s, x 7 = .string s
  s8 : ∃ s, x 8 = .string s
  i9 : ∃ z, x 9 = .int .i64 z
  i10 : ∃ z, x 10 = .int .i64 z
  l11 : StrRows w 5 (x 11)
  u12 : StrRows w 3 (x 12)
  d13 : StrRows w 2 (x 13)
  m14 : StrRows w 1 (x 14)
  m15 : StrRows w 1 (x 15)
theorem LocOk.below {w w' : World} {x : Nat → Value} (h : LocOk w x) (hb : Below w.heap.size w w') : LocOk w' x :=
  ⟨h.s0, h.s1, h.s2, h.r3.below hb, h.r4.below hb, h.s5, h.s6, h.s7, h.s8, h.i9, h.i10, h.l11.below hb, h.u12.below hb, h.d13.below hb, h.m14.below hb, h.m15.below hb⟩
/-- a table: its locales, aliases and near entries -/
structure TabOk (w : World) (v0 v1 v2 : Value) : Prop where
  locs : ∃ ad n c f b off, v0 = .slice ad n c ∧ Rw w ad n 16 f b off ∧ ∀ i, i < n → LocOk w (f i)
  als : StrRows w 2 v1
  nears : ∃ ad n c f b off, v2 = .slice ad n c ∧ Rw w ad n 3 f b off ∧ ∀ i, i < n → (∃ s, f i 0 = .string s) ∧ (∃ s, f i 1 = .string s)
theorem TabOk.below {w w' : World} {v0 v1 v2 : Value} (h : TabOk w v0 v1 v2) (hb : Below w.heap.size w w') : TabOk w' v0 v1 v2 := by
  obtain ⟨⟨ad, n, c, f, b, off, h1, h2, h3⟩, h4, ⟨ad', n', c', f', b', off', h5, h6, h7⟩⟩ := h
  exact ⟨⟨ad, n, c, f, b, off, h1, h2.below hb, fun i hi => (h3 i hi).below hb⟩, h4.below hb, ⟨ad', n', c', f', b', off', h5, h6.below hb, h7⟩⟩
end Go.Proofs.YtmleeodfmmpdgaaGreatDoor
/- How an argument that is a struct, or a slice of structs, is read; and that what it holds lies within the reach. -/
namespace Go.Proofs.YtmleeodfmmpdgaaGreatDoor
open Go.ChangeShapes Go.WideShapes Go.RowKit
section
variable {H : Type} {enc : TypeId × Value → H} {w : World} {base : Nat} {spare : Nat → Bool} {held : Bool}
/-- a value that reads as data of a type, each of its strings and slices within the reach -/
abbrev Rz (enc : TypeId × Value → H) (w : World) (base : Nat) (spare : Nat → Bool) (held : Bool) (t : TypeId) (cs : List Value) : Prop :=
  ∃ n x, DataW.trod enc Tryz.prog w base spare held n t cs = some x ∧ ∀ m ∈ x.1.weights Tryz.prog t, m ≤ reachBytes
theorem rz_sized {ts : List TypeId} {ds : List (DataW H)} {n : Nat} {t : TypeId} {cs : List Value} {x : DataW H × List MemPlace} (h : DataW.trod enc Tryz.prog w base spare held n t cs = some x)
    (hsz : (DataW.weightsEach Tryz.prog ts ds).all (· ≤ reachBytes) = true) (j : Nat) (ht : ts[j]? = some t) (hd : ds[j]? = some x.1) : Rz enc w base spare held t cs :=
  ⟨n, x, h, fun m hm => by simpa using List.all_eq_true.1 hsz _ (DataW.weights_mem_each ht hd m hm)⟩
theorem rz_string {v : Value} (h : Rz enc w base spare held 9 [v]) : ∃ s, v = .string s ∧ s.size ≤ reachBytes := by
  obtain ⟨n, x, h, hz⟩ := h
  obtain ⟨s, e, hx, _⟩ := DataW.trod_string Tryz.underlying9 h
  injection e with e
  refine ⟨s, e, ?_⟩
  rw [hx] at hz
  simp only [DataW.weights, List.mem_singleton] at hz
  have := hz _ rfl
  simpa using this
end
end Go.Proofs.YtmleeodfmmpdgaaGreatDoor
