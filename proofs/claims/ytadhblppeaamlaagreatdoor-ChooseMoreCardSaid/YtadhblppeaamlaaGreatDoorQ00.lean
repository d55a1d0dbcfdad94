/- Plain lemmas on worlds, slices and contracts, over any program. -/
import Derived.Test.YtadhblppeaamlaaGreatDoorRows
import Derived.WalkKit
import Derived.WalkSpells
import Derived.WalkLawsBesides
import Derived.Lib.Hide
import Derived.BigQuiet
import Derived.Deep.QuietTactic
import Derived.Lib.ConvBytes
import Derived.Lib.SlTrimSet
import Derived.Lib.Repeat
import Derived.Lib.Atoi
namespace Go.Proofs.YtadhblppeaamlaaGreatDoor
open Go.RowKit

/-- The slice value '.slice ad n c' reads in w as the cells xs, from block b, offset off on. -/
structure SlAt (w : World) (ad : Option Addr) (n : Nat) (xs : List Value) (b off : Nat) : Prop where
  len : xs.length = n
  max : n ≤ 9223372036854775807
  adr : n ≠ 0 → ad = some ⟨b, off, none⟩
  cell : ∀ i (_h : i < n), w.cell? ⟨b, off + i, none⟩ = some (xs.getD i undef)

/-- .. from some place on. -/
def Sl (w : World) (ad : Option Addr) (n : Nat) (xs : List Value) : Prop := ∃ b off, SlAt w ad n xs b off

theorem SlAt.ix {P : Program} {w : World} {ad : Option Addr} {n c : Nat} {xs : List Value} {b off k : Nat} (h : SlAt w ad n xs b off) (T E : TypeId)
    (hT : P.underlying T = some (.slice E)) (hE : P.cellsOf E = 1) (hk : k < n) (W : World) :
    (Instr.indexAt T (.slice ad n c) (.int .i64 (k : Int))).run P W = .ok (.pointer (some ⟨b, off + k, none⟩)) W := by
  rw [h.adr (by omega)]
  have hel : P.elem T = E := by simp [Program.elem, hT]
  rw [run_indexAt_slice W T _ n c .i64 k (by rw [hel]; exact hT), hel, if_pos (by omega)]
  have hs : (sizeOf E).run P W = .ok 1 W := by
    unfold Program.cellsOf at hE
    cases hi : P.info? E with
    | none => simp [hi] at hE
    | some i => simp [hi] at hE; simp [sizeOf, typeInfo, hi, hE]
  rw [hs]
  simp [Result.andThen, Addr.add]

theorem SlAt.block {w : World} {ad : Option Addr} {n : Nat} {xs : List Value} {b off : Nat} (h : SlAt w ad n xs b off) (hn : n ≠ 0) : b < w.heap.size := by
  have := h.cell 0 (by omega)
  exact World.block_lt_of_cell? w _ this

theorem SlAt.below {w w' : World} {ad : Option Addr} {n : Nat} {xs : List Value} {b off : Nat} (h : SlAt w ad n xs b off) (hb : Below w.heap.size w w') : SlAt w' ad n xs b off :=
  ⟨h.len, h.max, h.adr, fun i hi => by rw [hb.cell (p := ⟨b, off + i, none⟩) (h.block (by omega))]; exact h.cell i hi⟩


theorem getD_map_u8 (bs : List UInt8) (k : Nat) (h : k < bs.length) : (bs.map fun x => Value.int .u8 (x.toNat : Int)).getD k undef = .int .u8 ((bs.getD k 0).toNat : Int) := by
  simp [List.getD, List.getElem?_map, List.getElem?_eq_getElem h]

/-- the bytes of a slice -/
def u8s (bs : List UInt8) : List Value := bs.map fun x => .int .u8 (x.toNat : Int)
theorem u8s_getD (bs : List UInt8) (k : Nat) (h : k < bs.length) : (u8s bs).getD k undef = .int .u8 ((bs.getD k 0).toNat : Int) := getD_map_u8 bs k h
theorem u8s_length (bs : List UInt8) : (u8s bs).length = bs.length := by simp [u8s]

theorem foldl_take_succ {α β : Type} (f : α → β → α) (l : List β) (a : α) (k : Nat) (h : k < l.length) (d : β) :
    (l.take (k + 1)).foldl f a = f ((l.take k).foldl f a) (l.getD k d) := by
  rw [List.take_succ_eq_append_getElem h, List.foldl_append]
  simp [List.getD, List.getElem?_eq_getElem h]


/-- the numbers of a slice of int -/
def ints (zs : List Int) : List Value := zs.map (.int .i64)
theorem ints_length (zs : List Int) : (ints zs).length = zs.length := by simp [ints]
theorem ints_getD (zs : List Int) (k : Nat) (h : k < zs.length) : (ints zs).getD k undef = .int .i64 (zs.getD k 0) := by
  simp [ints, List.getD, List.getElem?_map, List.getElem?_eq_getElem h]
/-- the strings of a slice -/
def strs (ss : List ByteArray) : List Value := ss.map .string
theorem strs_length (ss : List ByteArray) : (strs ss).length = ss.length := by simp [strs]
theorem strs_getD (ss : List ByteArray) (k : Nat) (h : k < ss.length) : (strs ss).getD k undef = .string (ss.getD k .empty) := by
  simp [strs, List.getD, List.getElem?_map, List.getElem?_eq_getElem h]
theorem getD_mem {α : Type} (l : List α) (k : Nat) (d : α) (h : k < l.length) : l.getD k d ∈ l := by
  simp [List.getD, List.getElem?_eq_getElem h]

theorem any_take_succ {α : Type} (p : α → Bool) (l : List α) (k : Nat) (h : k < l.length) (d : α) : (l.take (k + 1)).any p = ((l.take k).any p || p (l.getD k d)) := by
  rw [List.take_succ_eq_append_getElem h, List.any_append]
  simp [List.getD, List.getElem?_eq_getElem h]
theorem any_of_getD {α : Type} (p : α → Bool) (l : List α) (k : Nat) (h : k < l.length) (d : α) (hp : p (l.getD k d) = true) : l.any p = true :=
  List.any_eq_true.2 ⟨_, getD_mem l k d h, hp⟩
theorem all_take_succ {α : Type} (p : α → Bool) (l : List α) (k : Nat) (h : k < l.length) (d : α) : (l.take (k + 1)).all p = ((l.take k).all p && p (l.getD k d)) := by
  rw [List.take_succ_eq_append_getElem h, List.all_append]
  simp [List.getD, List.getElem?_eq_getElem h]
theorem all_of_getD {α : Type} (p : α → Bool) (l : List α) (k : Nat) (h : k < l.length) (d : α) (hp : p (l.getD k d) = false) : l.all p = false := by
  rw [← Bool.not_eq_true, List.all_eq_true]
  intro ha
  have := ha _ (getD_mem l k d h)
  rw [hp] at this
  cases this

theorem ret_int {k : IntKind} {a b : Int} (h : a = b) : Ending.returned (.int k a) = .returned (.int k b) := by rw [h]
theorem ret_bool {a b : Bool} (h : a = b) : Ending.returned (.bool a) = .returned (.bool b) := by rw [h]

theorem Sl.below {w w' : World} {ad : Option Addr} {n : Nat} {xs : List Value} (h : Sl w ad n xs) (hb : Below w.heap.size w w') : Sl w' ad n xs := by
  obtain ⟨b, off, h⟩ := h
  exact ⟨b, off, h.below hb⟩

theorem Sl.alloc {w : World} {ad : Option Addr} {n : Nat} {xs : List Value} (h : Sl w ad n xs) (o : Obj) : Sl (w.alloc o) ad n xs := h.below ((Below.refl _ _).alloc (Nat.le_refl _) _)
theorem Sl.drewN {w : World} {ad : Option Addr} {n : Nat} {xs : List Value} (h : Sl w ad n xs) (k : Nat) : Sl (w.drewN k) ad n xs := h.below ⟨rfl, rfl, rfl, Nat.le_refl _, fun _ _ => rfl⟩
theorem Sl.len {w : World} {ad : Option Addr} {n : Nat} {xs : List Value} (h : Sl w ad n xs) : xs.length = n := by obtain ⟨b, off, h⟩ := h; exact h.len
theorem Sl.max {w : World} {ad : Option Addr} {n : Nat} {xs : List Value} (h : Sl w ad n xs) : n ≤ 9223372036854775807 := by obtain ⟨b, off, h⟩ := h; exact h.max

theorem bytes_below (w : World) (e : TypeId) (s : ByteArray) : Below w.heap.size w (Lib.bytesWorld w e s) :=
  ⟨rfl, rfl, rfl, by rw [Lib.bytesWorld_size]; omega, fun k hk => Lib.bytesWorld_at_old w e s k hk⟩

theorem ba_len (s : ByteArray) : s.data.toList.length = s.size := by rw [Array.length_toList]; rfl

theorem bytes_sl (w : World) (e : TypeId) (s : ByteArray) (hs : s.size ≤ 9223372036854775807) : Sl (Lib.bytesWorld w e s) (some ⟨w.heap.size, 0, none⟩) s.size (u8s s.data.toList) := by
  refine ⟨w.heap.size, 0, ⟨by rw [u8s_length, ba_len], hs, fun _ => rfl, fun i hi => ?_⟩⟩
  rw [u8s_getD _ _ (by rw [ba_len]; exact hi), Nat.zero_add]
  exact Lib.bytesWorld_cell w e s i hi

/-- A world that has grown from w: what was there is as it was. -/
def Ext (w : World) := { x : World // Below w.heap.size w x }
instance (w : World) : Nonempty (Ext w) := ⟨⟨w, Below.refl _ _⟩⟩
theorem Ext.cell {w : World} (e : Ext w) (a : Addr) (h : a.block < w.heap.size) : e.1.cell? a = w.cell? a := e.2.cell h
theorem Ext.frozen {w : World} (e : Ext w) (a : Addr) (h : a.block < w.heap.size) : e.1.frozen? a = w.frozen? a := e.2.frozen h
theorem Calls.ext {P : Program} {f : FuncId} {args : Array Value} {w : World} {e : Ext w} {v : Value}
    (h : Calls P f args e.1 fun e' w' => e' = .returned v ∧ Below e.1.heap.size e.1 w') : Calls P f args e.1 fun e' w'' => e' = .returned v ∧ ∃ e2 : Ext w, w'' = e2.1 :=
  h.mono fun _ w' ⟨he, hb⟩ => ⟨he, ⟨w', e.2.trans (hb.mono e.2.size)⟩, rfl⟩
theorem Calls.ext_same {P : Program} {f : FuncId} {args : Array Value} {w : World} {e : Ext w} {v : Value}
    (h : Calls P f args e.1 fun e' w' => e' = .returned v ∧ e.1 = w') : Calls P f args e.1 fun e' w'' => e' = .returned v ∧ ∃ e2 : Ext w, w'' = e2.1 :=
  h.mono fun _ _w' ⟨he, hb⟩ => ⟨he, e, hb.symm⟩
/-- A region that draws its order, whose operations read, and whose callees make memory at most: one walk, in the order of the text. -/
theorem wp_region_ext {P : Program} {id : Nat} {Q : Exit → Act → World → Prop} {a : Act} {w : World} {l : List Oper} (hm : P.follows .mixedOrders = true) (hB : Region.lexB .any l.toArray = true)
    (h : wpQuiet P l.toArray (fun w' => ∃ e : Ext w, w' = e.1) (fun a' => ∀ w', (∃ e : Ext w, w' = e.1) → Q .normal a' w') l a) : (Code.region id l.toArray true).wp P Q a w :=
  wp_region_quiet (C := fun w' => ∃ e : Ext w, w' = e.1) hm hB ⟨⟨_, (Below.refl _ w).drew⟩, rfl⟩ (by simpa using h)
theorem Sl.ext {w : World} {ad : Option Addr} {n : Nat} {xs : List Value} (h : Sl w ad n xs) (e : Ext w) : Sl e.1 ad n xs := h.below e.2
theorem box_below (w : World) (o : Obj) (k : Nat) : Below w.heap.size w ((w.alloc o).drewN k) :=
  ((Below.refl _ w).alloc (Nat.le_refl _) o).trans ⟨rfl, rfl, rfl, Nat.le_refl _, fun _ _ => rfl⟩
theorem ext_below (w : World) (o : Obj) (e : Ext (w.alloc o)) : Below w.heap.size w e.1 :=
  ((Below.refl _ w).alloc (Nat.le_refl _) o).trans (e.2.mono (by simp))

/-- the block of a slice's address -/
theorem own_form {w : World} {base : Nat} {E : TypeId} {v : Value} {n : Nat} {xs : List Value} (h : w.ownsRow base E 1 v n xs) : ∃ ad c, v = .slice ad n c := by
  obtain ⟨_, ⟨rfl, rfl⟩ | ⟨g, cap, cur, rfl, _⟩⟩ := h
  · exact ⟨_, _, rfl⟩
  · exact ⟨_, _, rfl⟩

theorem Own.sl {w : World} {base : Nat} {E : TypeId} {ad : Option Addr} {n c : Nat} {xs : List Value} (h : w.ownsRow base E 1 (.slice ad n c) n xs) : Sl w ad n xs := by
  have hl : xs.length = n := by have := h.1; omega
  obtain ⟨_, ⟨h1, h2⟩ | ⟨g, cap, cur, h1, h2, h3, h4, h5, h6, h7⟩⟩ := h
  · subst h2
    exact ⟨0, 0, hl, by omega, fun h => absurd rfl h, fun i hi => absurd hi (Nat.not_lt_zero _)⟩
  · injection h1 with e1 e2 e3
    subst e1
    refine ⟨g, 0, hl, by unfold maxLen at h5; omega, fun _ => rfl, fun i hi => ?_⟩
    have hi' : i < cur.size := by omega
    have hx : xs.getD i undef = cur[i] := by
      rw [← h7]
      simp only [List.getD, Nat.mul_one]
      rw [List.getElem?_take, if_pos hi]
      simp [hi']
    rw [hx]
    simp [World.cell?, h3, hi']

theorem Own.lt {w : World} {base : Nat} {E : TypeId} {ad : Option Addr} {n c : Nat} {xs : List Value} (h : w.ownsRow base E 1 (.slice ad n c) n xs) :
    ∀ k, Value.ownBlock (.slice ad n c) = some k → base ≤ k ∧ k < w.heap.size := World.ownsRow.lt h

theorem Own.below {w w' : World} {base : Nat} {E : TypeId} {v : Value} {n : Nat} {xs : List Value} (h : w.ownsRow base E 1 v n xs) (hb : Below w.heap.size w w') : w'.ownsRow base E 1 v n xs := by
  refine ⟨h.1, ?_⟩
  rcases h.2 with h2 | ⟨g, cap, cur, h1, h2, h3, h4, h5, h6, h7⟩
  · exact .inl h2
  · have hg : g < w.heap.size := by
      rcases Nat.lt_or_ge g w.heap.size with h' | h'
      · exact h'
      · simp [Array.getElem?_eq_none h'] at h3
    exact .inr ⟨g, cap, cur, h1, h2, (hb.block g hg).trans h3, h4, h5, h6, h7⟩

theorem Own.rebase {w : World} {base base' : Nat} {E : TypeId} {v : Value} {n : Nat} {xs : List Value} (h : w.ownsRow base E 1 v n xs) (hb : base' ≤ base) : w.ownsRow base' E 1 v n xs := by
  refine ⟨h.1, ?_⟩
  rcases h.2 with h2 | ⟨g, cap, cur, h1, h2, h3⟩
  · exact .inl h2
  · exact .inr ⟨g, cap, cur, h1, by omega, h3⟩

/-- append of one element to a slice of the call's own -/
theorem wpList_app {P : Program} {ops : Array Oper} {rest : List Oper} {o : Oper} {a : Act} {Q : Exit → Act → World → Prop} {w : World} (t E : TypeId) (bytes : Nat)
    (ht : P.underlying t = some (.slice E)) (i : TypeInfo) (z : Value) (hi : P.info? E = some i) (hz : i.zero = some z) (hsize : i.size = 1) (hby : i.bytes = bytes) (hzs : z.cells.size = 1)
    (hgd : o.guard = none) (s x : Operand) (ho : o.op = .call { callee := .builtin .append, args := #[s, x], argTypes := #[t, t] })
    (base : Nat) (ad : Option Addr) (n c : Nat) (xs : List Value) (hs : a.eval s = .slice ad n c) (hown : w.ownsRow base E 1 (.slice ad n c) n xs)
    (y : Value) (E' : TypeId) (hx : a.eval x = .slice (some ⟨w.heap.size, 0, none⟩) 1 1) (hy : y.oneCell' = true)
    (h63 : n + 1 ≤ maxLen) (hbytes : (n + 1) * bytes ≤ 140737488355328) (hbase : base ≤ w.heap.size)
    (h : ∀ ad' c' w', w'.ownsRow base E 1 (.slice ad' (n + 1) c') (n + 1) (xs ++ [y]) → Below base w w' → w.grownBy w' (Value.ownBlock (.slice ad n c)) → w.heap.size < w'.heap.size →
      wpList P ops Q rest (a.put o.dst (.slice ad' (n + 1) c')) w') : wpList P ops Q (o :: rest) a (w.alloc (.cells #[y] E')) := by
  refine wpList_append_own _ hgd s x t ho base E i z 1 bytes ht hi hz hsize hby hzs (by omega) (.slice ad n c) n xs hs (World.ownsRow.alloc hown _) ⟨w.heap.size, 0, none⟩ 1 1 [y] hx rfl (cell_one_new _ _ _)
    (by simpa using hy) h63 hbytes (by simp; omega) ?_
  intro v' w' h1 h2 _
  obtain ⟨ad', c', rfl⟩ := own_form h1
  have hlt := Own.lt hown
  refine h ad' c' w' h1 ?_ ?_ (by have := h2.size; simp at this; omega)
  · exact ((Below.refl base w).alloc hbase _).grown h2 (by simp; omega) (fun k hk => (hlt k hk).1)
  · exact ⟨h2.os, h2.tape, h2.output, by have := h2.size; simp at this; omega, fun k hk hne => (h2.block k (by simp; omega) hne).trans (Below.heap_alloc _ _ _ hk)⟩

theorem u64_wrap_bd (x : Int) : 0 ≤ IntKind.u64.wrap x ∧ IntKind.u64.wrap x ≤ 18446744073709551615 := by
  rw [IntKind.wrap_u64]; omega


theorem Calls.toExt {P : Program} {f : FuncId} {args : Array Value} {w : World} {v : Value}
    (h : Calls P f args w fun e w' => e = .returned v ∧ Below w.heap.size w w') : Calls P f args w fun e w' => e = .returned v ∧ ∃ x : Ext w, w' = x.1 :=
  h.mono fun _ w' ⟨he, hb⟩ => ⟨he, ⟨w', hb⟩, rfl⟩
/-- nothing that was there has changed -/
def Bel (w X : World) : Prop := Below w.heap.size w X
theorem Bel.refl (w : World) : Bel w w := Below.refl _ _
theorem Bel.alloc {w X : World} (h : Bel w X) (o : Obj) : Bel w (X.alloc o) := Below.alloc h h.size _
theorem Bel.ext {w X : World} (h : Bel w X) (x : Ext X) : Bel w x.1 := Below.trans h (x.2.mono h.size)
theorem Bel.drewN {w X : World} (h : Bel w X) (n : Nat) : Bel w (X.drewN n) := Below.trans h ⟨rfl, rfl, rfl, Nat.le_refl _, fun _ _ => rfl⟩
theorem Bel.drew {w X : World} (h : Bel w X) : Bel w X.drew := Below.drew h
theorem Bel.setCell {w X : World} (h : Bel w X) (p : Addr) (v : Value) (hp : w.heap.size ≤ p.block) : Bel w (X.setCell p v) := Below.setCell h (p := p) hp v
theorem Bel.set3 {w X : World} (h : Bel w X) (a b c : Value) : Bel w (((X.setCell ⟨w.heap.size, 0, none⟩ a).setCell ⟨w.heap.size, 1, none⟩ b).setCell ⟨w.heap.size, 2, none⟩ c) :=
  ((h.setCell _ _ (Nat.le_refl _)).setCell _ _ (Nat.le_refl _)).setCell _ _ (Nat.le_refl _)
theorem Bel.out {w X : World} (h : Bel w X) : Below w.heap.size w X := h
theorem below_drew1 (w : World) : Below w.heap.size w w.drew := (Below.refl _ w).drew
end Go.Proofs.YtadhblppeaamlaaGreatDoor
/- Plain: decimal numbers as lists of bytes. -/
namespace Go.Proofs.YtadhblppeaamlaaGreatDoor

/-- the string of a list of bytes -/
def bs (l : List UInt8) : ByteArray := ⟨l.toArray⟩
theorem bs_data (l : List UInt8) : (bs l).data.toList = l := rfl
theorem bs_size (l : List UInt8) : (bs l).size = l.length := by simp [bs, ByteArray.size]
theorem bs_of (s : ByteArray) : s = bs s.data.toList := rfl
theorem bs_inj {a b : List UInt8} (h : bs a = bs b) : a = b := by
  have := congrArg (fun s : ByteArray => s.data.toList) h
  simpa [bs] using this
theorem bs_toList (l : List UInt8) : (bs l).toList = l := by rw [ByteArray.toList_eq]; rfl
theorem bs_append (a b : List UInt8) : bs a ++ bs b = bs (a ++ b) := by
  apply ByteArray.ext
  simp [bs]
theorem bs_extract (l : List UInt8) (i j : Nat) : (bs l).extract i j = bs ((l.take j).drop i) := by
  apply ByteArray.ext
  have e : List.drop i (List.take (i + (j - i)) l) = List.drop i (List.take j l) := by
    by_cases h : i ≤ j
    · rw [show i + (j - i) = j by omega]
    · rw [List.drop_eq_nil_of_le (by rw [List.length_take]; omega), List.drop_eq_nil_of_le (by rw [List.length_take]; omega)]
  simp [bs, ByteArray.data_extract, List.take_drop, e]
theorem dropWhile_nil {p : UInt8 → Bool} : ∀ {l : List UInt8}, l.dropWhile p = [] ↔ ∀ x ∈ l, p x = true
  | [] => by simp
  | a :: l => by
    rw [List.dropWhile_cons]
    cases h : p a with
    | true => simp [h, dropWhile_nil (l := l)]
    | false => simp [h]

def isD (c : UInt8) : Bool := decide (48 ≤ c.toNat) && decide (c.toNat ≤ 57)
def allD (l : List UInt8) : Bool := l.all isD
def allZ (l : List UInt8) : Bool := l.all (· == 48)
def dNeg (l : List UInt8) : Bool := l.head? == some 45
def dRest (l : List UInt8) : List UInt8 := if dNeg l then l.tail else l
def dWhole (l : List UInt8) : List UInt8 := (dRest l).takeWhile (· != 46)
def dPoint (l : List UInt8) : Bool := decide ((dWhole l).length < (dRest l).length)
def dFrac (l : List UInt8) : List UInt8 := (dRest l).drop ((dWhole l).length + 1)
def okW (w : List UInt8) : Bool := decide (1 ≤ w.length) && decide (w.length ≤ 15) && allD w && !(decide (1 < w.length) && w.head? == some 48)
def okF (p : Bool) (f : List UInt8) : Bool := !(p && f.isEmpty) && decide (f.length ≤ 6) && allD f
def dOk (l : List UInt8) : Bool := okW (dWhole l) && okF (dPoint l) (dFrac l) && !(dNeg l && (allZ (dWhole l) && allZ (dFrac l)))
/-- the integer that digits stand for -/
def valD (l : List UInt8) : Nat := l.foldl (fun n c => 10 * n + (c.toNat - 48)) 0
/-- a number as a string -/
def textD (neg : Bool) (w f : List UInt8) : List UInt8 :=
  (if neg && !(allZ w && allZ f) then [45] else []) ++ w ++ (if f.isEmpty then [] else 46 :: f)
/-- digits without the zeros at the end -/
def trimZ (l : List UInt8) : List UInt8 := Lib.trimRightS l [48]

theorem trimZ_nil {l : List UInt8} : trimZ l = [] ↔ allZ l = true := by
  unfold trimZ Lib.trimRightS allZ
  rw [List.reverse_eq_nil_iff, dropWhile_nil, List.all_eq_true]
  simp
theorem trimS_nil {l cs : List UInt8} : Lib.trimS l cs = [] ↔ l.all (fun c => cs.contains c) = true := by
  unfold Lib.trimS Lib.trimLeftS Lib.trimRightS
  rw [dropWhile_nil, List.all_eq_true]
  constructor
  · intro h x hx
    refine Classical.byContradiction fun hc => ?_
    have : x ∈ (l.reverse.dropWhile (cs.contains ·)).reverse := by
      rw [List.mem_reverse]
      have hl : l.reverse = l.reverse.takeWhile (cs.contains ·) ++ l.reverse.dropWhile (cs.contains ·) := (List.takeWhile_append_dropWhile ..).symm
      have hx' : x ∈ l.reverse := List.mem_reverse.2 hx
      rw [hl, List.mem_append] at hx'
      rcases hx' with h1 | h1
      · exact absurd (List.all_eq_true.1 List.all_takeWhile x h1) hc
      · exact h1
    exact hc (h x this)
  · intro h x hx
    rw [List.mem_reverse] at hx
    exact h x (List.mem_reverse.1 ((List.dropWhile_sublist _).subset hx))
theorem digit_mem (c : UInt8) : [48, 49, 50, 51, 52, 53, 54, 55, 56, 57].contains c = isD c := by
  have h : ∀ n : Fin 256, [48, 49, 50, 51, 52, 53, 54, 55, 56, 57].contains (UInt8.ofNat n.1) = isD (UInt8.ofNat n.1) := by decide +kernel
  have := h ⟨c.toNat, c.toNat_lt⟩
  simpa using this

theorem fold_val (l : List UInt8) : ∀ acc : Nat, l.foldl (fun n c => 10 * n + (c.toNat - 48)) acc = acc * 10 ^ l.length + valD l := by
  unfold valD
  induction l with
  | nil => intro acc; simp
  | cons c l ih =>
    intro acc
    simp only [List.foldl_cons, List.length_cons]
    rw [ih, ih (10 * 0 + (c.toNat - 48)), Nat.pow_succ, Nat.mul_zero, Nat.zero_add, Nat.add_mul]
    rw [show 10 * acc * 10 ^ l.length = acc * (10 ^ l.length * 10) by rw [Nat.mul_comm 10 acc, Nat.mul_assoc, Nat.mul_comm 10]]
    omega
theorem valD_cons (c : UInt8) (l : List UInt8) : valD (c :: l) = (c.toNat - 48) * 10 ^ l.length + valD l := by
  unfold valD
  rw [List.foldl_cons, fold_val]
  simp [valD]
theorem valD_snoc (l : List UInt8) (c : UInt8) : valD (l ++ [c]) = 10 * valD l + (c.toNat - 48) := by
  simp [valD, List.foldl_append]
theorem valD_append (a b : List UInt8) : valD (a ++ b) = valD a * 10 ^ b.length + valD b := by
  unfold valD
  rw [List.foldl_append, fold_val]
  rfl
theorem isD_iff (c : UInt8) : isD c = true ↔ 48 ≤ c.toNat ∧ c.toNat ≤ 57 := by simp [isD]
theorem valD_lt (l : List UInt8) (h : allD l = true) : valD l < 10 ^ l.length := by
  induction l with
  | nil => simp [valD]
  | cons c l ih =>
    simp only [allD, List.all_cons, Bool.and_eq_true] at h
    have h1 := ih h.2
    have h2 := (isD_iff c).1 h.1
    rw [valD_cons, List.length_cons, Nat.pow_succ]
    have h3 : (c.toNat - 48) * 10 ^ l.length ≤ 9 * 10 ^ l.length := Nat.mul_le_mul_right _ (by omega)
    omega
theorem decFrom_val (l : List UInt8) : ∀ acc, allD l = true → Lib.decFrom acc l = some (l.foldl (fun n c => 10 * n + (c.toNat - 48)) acc) := by
  induction l with
  | nil => intro acc _; rfl
  | cons c l ih =>
    intro acc h
    simp only [allD, List.all_cons, Bool.and_eq_true] at h
    have h2 := (isD_iff c).1 h.1
    simp only [Lib.decFrom, Lib.digitVal, h2, and_self, if_true, List.foldl_cons]
    rw [ih _ h.2, Nat.mul_comm]
theorem atoi_val (l : List UInt8) (h : allD l = true) : Lib.atoi (48 :: l) = some (valD l : Int) := by
  simp only [Lib.atoi, Lib.decNat]
  have h1 : ((48 : UInt8) == 45) = false := by decide
  have h2 : ((48 : UInt8) == 43) = false := by decide
  rw [h1, h2]
  simp only [Bool.false_eq_true, if_false, List.isEmpty_cons]
  have : allD (48 :: l) = true := by
    have e : isD 48 = true := by decide
    unfold allD at h ⊢
    rw [List.all_cons, e, h]; rfl
  rw [decFrom_val _ _ this]
  simp [valD]
theorem allD_append (a b : List UInt8) : allD (a ++ b) = (allD a && allD b) := by simp [allD]
theorem allZ_append (a b : List UInt8) : allZ (a ++ b) = (allZ a && allZ b) := by simp [allZ]
theorem allZ_val {l : List UInt8} (h : allZ l = true) : valD l = 0 := by
  induction l with
  | nil => rfl
  | cons c l ih =>
    simp only [allZ, List.all_cons, Bool.and_eq_true, beq_iff_eq] at h
    rw [valD_cons, h.1, ih h.2]
    simp
theorem val_allZ {l : List UInt8} (hd : allD l = true) (h : valD l = 0) : allZ l = true := by
  induction l with
  | nil => rfl
  | cons c l ih =>
    simp only [allD, List.all_cons, Bool.and_eq_true] at hd
    rw [valD_cons] at h
    have h1 := (isD_iff c).1 hd.1
    have h2 : (c.toNat - 48) * 10 ^ l.length = 0 := by omega
    have h3 : c.toNat - 48 = 0 := by
      rcases Nat.mul_eq_zero.1 h2 with h | h
      · exact h
      · have := Nat.pos_of_ne_zero (n := 10 ^ l.length) (by simp); omega
    simp only [allZ, List.all_cons, Bool.and_eq_true, beq_iff_eq]
    exact ⟨UInt8.toNat_inj.1 (by show c.toNat = 48; omega), ih hd.2 (by omega)⟩
theorem ba_eq {a b : ByteArray} (h : a.data.toList = b.data.toList) : a = b := by
  apply ByteArray.ext
  exact Array.toList_inj.1 h
theorem bs_self (s : ByteArray) : bs s.data.toList = s := rfl
theorem app_data (a b : ByteArray) : (a ++ b).data.toList = a.data.toList ++ b.data.toList := by
  rw [ByteArray.data_append, Array.toList_append]
theorem ext_data (s : ByteArray) (i j : Nat) : (s.extract i j).data.toList = (s.data.toList.take j).drop i := by
  have := congrArg (fun s : ByteArray => s.data.toList) (bs_extract s.data.toList i j)
  exact this
theorem size_len (s : ByteArray) : s.data.toList.length = s.size := by rw [Array.length_toList]; rfl

theorem trimZ_snoc (l : List UInt8) (c : UInt8) : trimZ (l ++ [c]) = if c = 48 then trimZ l else l ++ [c] := by
  unfold trimZ Lib.trimRightS
  rw [List.reverse_append]
  simp only [List.reverse_cons, List.reverse_nil, List.nil_append, List.singleton_append, List.dropWhile_cons]
  have e : [(48 : UInt8)].contains c = (c == 48) := Lib.contains_one 48 c
  rw [e]
  by_cases h : c = 48
  · simp [h]
  · simp [h]
theorem trimZ_empty : trimZ [] = [] := rfl
theorem snoc_of {l : List UInt8} (h : 0 < l.length) : l = l.take (l.length - 1) ++ [l[l.length - 1]] := by
  have h1 := List.take_succ_eq_append_getElem (l := l) (i := l.length - 1) (by omega)
  rw [show l.length - 1 + 1 = l.length by omega, List.take_length] at h1
  exact h1
theorem trimZ_len (l : List UInt8) : (trimZ l).length ≤ l.length := by
  unfold trimZ Lib.trimRightS
  rw [List.length_reverse]
  have := (List.dropWhile_sublist (fun x => [48].contains x) (l := l.reverse)).length_le
  simpa using this
theorem trimZ_prefix (l : List UInt8) : ∃ k, l = trimZ l ++ List.replicate k 48 := by
  unfold trimZ Lib.trimRightS
  have h : l.reverse = l.reverse.takeWhile (fun x => [48].contains x) ++ l.reverse.dropWhile (fun x => [48].contains x) := (List.takeWhile_append_dropWhile ..).symm
  have h2 := congrArg List.reverse h
  rw [List.reverse_reverse, List.reverse_append] at h2
  refine ⟨(l.reverse.takeWhile (fun x => [48].contains x)).length, ?_⟩
  have h3 : (l.reverse.takeWhile (fun x => [48].contains x)).reverse = List.replicate (l.reverse.takeWhile (fun x => [48].contains x)).length 48 := by
    rw [List.eq_replicate_iff]
    refine ⟨by simp, fun b hb => ?_⟩
    rw [List.mem_reverse] at hb
    have := List.all_eq_true.1 List.all_takeWhile b hb
    simpa using this
  rw [h3] at h2
  exact h2
theorem trimZ_allD {l : List UInt8} (h : allD l = true) : allD (trimZ l) = true := by
  obtain ⟨k, hk⟩ := trimZ_prefix l
  rw [hk, allD_append] at h
  simp only [Bool.and_eq_true] at h
  exact h.1

/-- digits without needless zeros at the beginning, as the reference has it -/
def leadD : List UInt8 → List UInt8
  | [] => []
  | [c] => [c]
  | c :: d :: r => if c = 48 then leadD (d :: r) else c :: d :: r
/-- .. and as the program has it -/
def trimmedD (l : List UInt8) : List UInt8 := if (Lib.trimLeftS l [48]).isEmpty then [48] else Lib.trimLeftS l [48]
theorem lead_trimmed : ∀ {l : List UInt8}, l ≠ [] → leadD l = trimmedD l
  | [], h => absurd rfl h
  | [c], _ => by
    unfold leadD trimmedD Lib.trimLeftS
    by_cases h : c = 48
    · subst h; rfl
    · have e : [(48 : UInt8)].contains c = false := by rw [Lib.contains_one]; simpa using h
      simp [h]
  | c :: d :: r, _ => by
    by_cases h : c = 48
    · subst h
      have ih := lead_trimmed (l := d :: r) (by simp)
      have e : Lib.trimLeftS (48 :: d :: r) [48] = Lib.trimLeftS (d :: r) [48] := by simp [Lib.trimLeftS, List.dropWhile_cons]
      unfold trimmedD
      rw [e]
      simpa [leadD, trimmedD] using ih
    · unfold leadD trimmedD Lib.trimLeftS
      simp [h]
theorem lead_zeros (k : Nat) {l : List UInt8} (h : l ≠ []) : leadD (List.replicate k 48 ++ l) = leadD l := by
  induction k with
  | zero => rfl
  | succ k ih =>
    rw [List.replicate_succ, List.cons_append]
    cases hx : List.replicate k 48 ++ l with
    | nil => simp at hx; exact absurd hx.2 h
    | cons d r => rw [← ih, hx]; simp [leadD]
theorem leadD_len (l : List UInt8) : (leadD l).length ≤ l.length := by
  induction l with
  | nil => simp [leadD]
  | cons c l ih =>
    cases l with
    | nil => simp [leadD]
    | cons d r =>
      unfold leadD
      split
      · simp at ih ⊢; omega
      · simp
theorem repeat_zeros (n : Nat) : Lib.repeatL [48] n = List.replicate n 48 := by
  induction n with
  | zero => rfl
  | succ n ih => simp [Lib.repeatL, ih, List.replicate_succ]
end Go.Proofs.YtadhblppeaamlaaGreatDoor
/- Tables in memory: slices of structs, whatever the number of their cells. -/
namespace Go.Proofs.YtadhblppeaamlaaGreatDoor
open Go.RowKit

/-- a slice of n elements of k cells each, from block b, offset off on: cell j of element i holds f i j -/
structure Rw (w : World) (ad : Option Addr) (n k : Nat) (f : Nat → Nat → Value) (b off : Nat) : Prop where
  max : n ≤ 9223372036854775807
  adr : n ≠ 0 → ad = some ⟨b, off, none⟩
  cell : ∀ i j, i < n → j < k → w.cell? ⟨b, off + i * k + j, none⟩ = some (f i j)
theorem Rw.block {w : World} {ad : Option Addr} {n k : Nat} {f b off} (h : Rw w ad n k f b off) (hn : n ≠ 0) (hk : k ≠ 0) : b < w.heap.size :=
  World.block_lt_of_cell? w _ (h.cell 0 0 (by omega) (by omega))
theorem Rw.below {w w' : World} {ad : Option Addr} {n k : Nat} {f b off} (h : Rw w ad n k f b off) (hb : Below w.heap.size w w') : Rw w' ad n k f b off :=
  ⟨h.max, h.adr, fun i j hi hj => by rw [hb.cell (p := ⟨b, off + i * k + j, none⟩) (h.block (by omega) (by omega))]; exact h.cell i j hi hj⟩
theorem Rw.ix {P : Program} {w : World} {ad : Option Addr} {n k : Nat} {f b off} (h : Rw w ad n k f b off) (T E : TypeId) (hT : P.underlying T = some (.slice E)) (hE : P.cellsOf E = k) (hk : 0 < k) {i : Nat} (hi : i < n) (c : Nat) (W : World) :
    (Instr.indexAt T (.slice ad n c) (.int .i64 (i : Int))).run P W = .ok (.pointer (some ⟨b, off + i * k, none⟩)) W := by
  rw [h.adr (by omega)]
  have hel : P.elem T = E := by simp [Program.elem, hT]
  rw [run_indexAt_slice W T _ n c .i64 i (by rw [hel]; exact hT), hel, if_pos (by omega)]
  have hs : (sizeOf E).run P W = .ok k W := by
    unfold Program.cellsOf at hE
    cases hi' : P.info? E with
    | none => simp [hi'] at hE; omega
    | some q => simp [hi'] at hE; simp [sizeOf, typeInfo, hi', hE]
  rw [hs]
  simp only [Result.andThen, Addr.add]
  by_cases h0 : i * k = 0
  · simp [h0]
  · simp [h0]
/-- a slice of structs of k strings -/
def StrRows (w : World) (k : Nat) (v : Value) : Prop := ∃ ad n c, ∃ g : Nat → Nat → ByteArray, ∃ b off, v = .slice ad n c ∧ Rw w ad n k (fun i j => .string (g i j)) b off
/-- a slice of relations: its fourth field is a slice -/
def RelRows (w : World) (v : Value) : Prop := ∃ ad n c f b off, v = .slice ad n c ∧ Rw w ad n 4 f b off ∧ ∀ i, i < n → ∃ a m c', f i 3 = .slice a m c' ∧ m ≤ 9223372036854775807
/-- a condition -/
def CondOk (w : World) (v : Value) : Prop := ∃ ad n c f b off, v = .slice ad n c ∧ Rw w ad n 1 f b off ∧ ∀ i, i < n → RelRows w (f i 0)
/-- a slice of rules -/
def RuleRows (w : World) (v : Value) : Prop := ∃ ad n c f b off, v = .slice ad n c ∧ Rw w ad n 2 f b off ∧ (ad = none → c = 0) ∧ ∀ i, i < n → (∃ s, f i 0 = .string s) ∧ CondOk w (f i 1)
theorem StrRows.below {w w' : World} {k : Nat} {v : Value} (h : StrRows w k v) (hb : Below w.heap.size w w') : StrRows w' k v := by
  obtain ⟨ad, n, c, g, b, off, h1, h2⟩ := h
  exact ⟨ad, n, c, g, b, off, h1, h2.below hb⟩
theorem RelRows.below {w w' : World} {v : Value} (h : RelRows w v) (hb : Below w.heap.size w w') : RelRows w' v := by
  obtain ⟨ad, n, c, f, b, off, h1, h2, h3⟩ := h
  exact ⟨ad, n, c, f, b, off, h1, h2.below hb, h3⟩
theorem CondOk.below {w w' : World} {v : Value} (h : CondOk w v) (hb : Below w.heap.size w w') : CondOk w' v := by
  obtain ⟨ad, n, c, f, b, off, h1, h2, h3⟩ := h
  exact ⟨ad, n, c, f, b, off, h1, h2.below hb, fun i hi => (h3 i hi).below hb⟩
theorem RuleRows.below {w w' : World} {v : Value} (h : RuleRows w v) (hb : Below w.heap.size w w') : RuleRows w' v := by
  obtain ⟨ad, n, c, f, b, off, h1, h2, h3, h4⟩ := h
  exact ⟨ad, n, c, f, b, off, h1, h2.below hb, h3, fun i hi => ⟨(h4 i hi).1, (h4 i hi).2.below hb⟩⟩
/-- a locale's sixteen cells -/
structure LocOk (w : World) (x : Nat → Value) : Prop where
  s0 : ∃ s, x 0 = .string s
  s1 : ∃ s, x 1 = .string s
  s2 : ∃ s, x 2 = .string s
  r3 : RuleRows w (x 3)
  r4 : RuleRows w (x 4)
  s5 : ∃ s, x 5 = .string s
  s6 : ∃ s, x 6 = .string s
  s7 : ∃ s, x 7 = .string s
  s8 : ∃ s, x 8 = .string s
  i9 : ∃ z, x 9 = .int .i64 z
  i10 : ∃ z, x 10 = .int .i64 z
  l11 : StrRows w 5 (x 11)
  u12 : StrRows w 3 (x 12)
  d13 : StrRows w 2 (x 13)
  m14 : StrRows w 1 (x 14)
  m15 : StrRows w 1 (x 15)
theorem LocOk.below {w w' : World} {x : Nat → Value} (h : LocOk w x) (hb : Below w.heap.size w w') : LocOk w' x :=
  ⟨h.s0, h.s1, h.s2, h.r3.below hb, h.r4.below hb, h.s5, h.s6, h.s7, h.s8, h.i9, h.i10, h.l11.below hb, h.u12.below hb, h.d13.below hb, h.m14.below hb, h.m15.below hb⟩
/-- a table: its locales, aliases and near entries -/
structure TabOk (w : World) (v0 v1 v2 : Value) : Prop where
  locs : ∃ ad n c f b off, v0 = .slice ad n c ∧ Rw w ad n 16 f b off ∧ ∀ i, i < n → LocOk w (f i)
  als : StrRows w 2 v1
  nears : ∃ ad n c f b off, v2 = .slice ad n c ∧ Rw w ad n 3 f b off ∧ ∀ i, i < n → (∃ s, f i 0 = .string s) ∧ (∃ s, f i 1 = .string s)
theorem TabOk.below {w w' : World} {v0 v1 v2 : Value} (h : TabOk w v0 v1 v2) (hb : Below w.heap.size w w') : TabOk w' v0 v1 v2 := by
  obtain ⟨⟨ad, n, c, f, b, off, h1, h2, h3⟩, h4, ⟨ad', n', c', f', b', off', h5, h6, h7⟩⟩ := h
  exact ⟨⟨ad, n, c, f, b, off, h1, h2.below hb, fun i hi => (h3 i hi).below hb⟩, h4.below hb, ⟨ad', n', c', f', b', off', h5, h6.below hb, h7⟩⟩
/-- some integer, and nothing that was there has changed -/
def SomeInt (w : World) (e : Ending) (w' : World) : Prop := ∃ z : Int, e = .returned (.int .i64 z) ∧ Below w.heap.size w w'
/-- some integer, the world as it was -/
def QInt (w : World) (e : Ending) (w' : World) : Prop := ∃ z : Int, e = .returned (.int .i64 z) ∧ w = w'
/-- some truth value, the world as it was -/
def QBool (w : World) (e : Ending) (w' : World) : Prop := ∃ b : Bool, e = .returned (.bool b) ∧ w = w'
/-- some truth value, and nothing that was there has changed -/
def SomeBool (w : World) (e : Ending) (w' : World) : Prop := ∃ b : Bool, e = .returned (.bool b) ∧ Below w.heap.size w w'
end Go.Proofs.YtadhblppeaamlaaGreatDoor
/- Rules in memory: conditions, and what they say. -/
namespace Go.Proofs.YtadhblppeaamlaaGreatDoor
open Go.RowKit

instance : LawfulBEq ByteArray where
  eq_of_beq {a b} h := by
    have h : (a.data == b.data) = true := h
    have := eq_of_beq h
    cases a; cases b; simp_all
  rfl {a} := by
    show (a.data == a.data) = true
    exact beq_self_eq_true _
/-- a relation of a condition -/
structure Rel where
  op : Int
  md : Int
  neg : Bool
  sp : List (Int × Int)
/-- a slice of structs of k cells that reads as a list -/
def RowsOf {α : Type} (k : Nat) (C : World → (Nat → Value) → α → Prop) (w : World) (v : Value) (l : List α) : Prop :=
  ∃ ad c f b off, v = .slice ad l.length c ∧ Rw w ad l.length k f b off ∧ (ad = none → c = 0) ∧ l.length ≤ c ∧ l.length ≤ 140737488351232 ∧ ∀ i x, l[i]? = some x → C w (f i) x
theorem RowsOf.map {α : Type} {k : Nat} {C : World → (Nat → Value) → α → Prop} {w w' : World} {v : Value} {l : List α} (h : RowsOf k C w v l) (hb : Below w.heap.size w w') (hC : ∀ x a, C w x a → C w' x a) : RowsOf k C w' v l := by
  obtain ⟨ad, c, f, b, off, h1, h2, h3, h4, h5, h6⟩ := h
  exact ⟨ad, c, f, b, off, h1, h2.below hb, h3, h4, h5, fun i x hx => hC _ _ (h6 i x hx)⟩
def SpanC (_ : World) (x : Nat → Value) (s : Int × Int) : Prop := x 0 = .int .i64 s.1 ∧ x 1 = .int .i64 s.2
def RelC (w : World) (x : Nat → Value) (r : Rel) : Prop := x 0 = .int .i64 r.op ∧ x 1 = .int .i64 r.md ∧ x 2 = .bool r.neg ∧ RowsOf 2 SpanC w (x 3) r.sp
def RelsC (w : World) (x : Nat → Value) (l : List Rel) : Prop := RowsOf 4 RelC w (x 0) l
/-- a condition -/
def CondAt (w : World) (v : Value) (c : List (List Rel)) : Prop := RowsOf 1 RelsC w v c
def RuleC (w : World) (x : Nat → Value) (r : ByteArray × List (List Rel)) : Prop := x 0 = .string r.1 ∧ CondAt w (x 1) r.2
/-- a list of rules -/
def RulesAt (w : World) (v : Value) (l : List (ByteArray × List (List Rel))) : Prop := RowsOf 2 RuleC w v l
theorem RelC.below {w w' : World} {x : Nat → Value} {r : Rel} (h : RelC w x r) (hb : Below w.heap.size w w') : RelC w' x r := ⟨h.1, h.2.1, h.2.2.1, h.2.2.2.map hb fun _ _ h => h⟩
theorem RelsC.below {w w' : World} {x : Nat → Value} {l : List Rel} (h : RelsC w x l) (hb : Below w.heap.size w w') : RelsC w' x l := RowsOf.map h hb fun _ _ h => h.below hb
theorem CondAt.below {w w' : World} {v : Value} {c : List (List Rel)} (h : CondAt w v c) (hb : Below w.heap.size w w') : CondAt w' v c := RowsOf.map h hb fun _ _ h => h.below hb
theorem RuleC.below {w w' : World} {x : Nat → Value} {r : ByteArray × List (List Rel)} (h : RuleC w x r) (hb : Below w.heap.size w w') : RuleC w' x r := ⟨h.1, h.2.below hb⟩
theorem RulesAt.below {w w' : World} {v : Value} {l : List (ByteArray × List (List Rel))} (h : RulesAt w v l) (hb : Below w.heap.size w w') : RulesAt w' v l := RowsOf.map h hb fun _ _ h => h.below hb
theorem RulesAt.nil (w : World) : RulesAt w (.slice none 0 0) [] := ⟨none, 0, fun _ _ => undef, 0, 0, rfl, ⟨Nat.zero_le _, fun h => absurd rfl h, fun i j hi => absurd hi (Nat.not_lt_zero _)⟩, fun _ => rfl, Nat.le_refl _, Nat.zero_le _, fun i x h => (by simp at h)⟩

def permV (op md : Int) : Bool :=
  if op = 1 ∨ op = 2 then [2, 3, 4, 5, 6, 10, 20, 25, 50, 100].contains md else if op = 5 ∨ op = 6 then [10, 100].contains md else false
def greatV (op : Int) : Int := if op = 3 ∨ op = 4 then 6 else 100
def spanOk (op : Int) (s : Int × Int) : Bool := decide (0 ≤ s.1) && decide (s.1 ≤ s.2) && decide (s.2 ≤ greatV op)
/-- whether a relation is valid -/
def properV (r : Rel) : Bool := decide (1 ≤ r.op) && decide (r.op ≤ 6) && (decide (r.md = 0) || permV r.op r.md) && decide (1 ≤ r.sp.length) && decide (r.sp.length ≤ 4) && r.sp.all (spanOk r.op)
def listOk (l : List Rel) : Bool := !l.isEmpty && l.all properV
/-- the number of relations -/
def relN (c : List (List Rel)) : Nat := (c.map List.length).sum
/-- whether a condition is valid -/
def validC (c : List (List Rel)) : Bool := c.all listOk && !c.isEmpty && decide (relN c ≤ 6)
/-- whether a number lies in a span -/
def insideV (l : List (Int × Int)) (n : Int) : Bool := l.any fun s => decide (s.1 ≤ n) && decide (n ≤ s.2)
def knownC (s : ByteArray) : Bool := [bs [122, 101, 114, 111], bs [111, 110, 101], bs [116, 119, 111], bs [102, 101, 119], bs [109, 97, 110, 121]].contains s
def otherB : ByteArray := bs [111, 116, 104, 101, 114]
/-- the i-th rule is valid, and has another class than those ahead of it -/
def ruleOk (rs : List (ByteArray × List (List Rel))) (i : Nat) : Bool :=
  let r := rs.getD i (.empty, [])
  knownC r.1 && validC r.2 && !((rs.take i).any fun x => x.1 == r.1)
/-- whether rules are valid -/
def validR (rs : List (ByteArray × List (List Rel))) : Bool := (List.range rs.length).all (ruleOk rs)

theorem relN_snoc (c : List (List Rel)) (l : List Rel) : relN (c ++ [l]) = relN c + l.length := by simp [relN]
theorem relN_take {c : List (List Rel)} {k : Nat} {l : List Rel} (h : c[k]? = some l) : relN (c.take (k + 1)) = relN (c.take k) + l.length := by
  obtain ⟨hk, he⟩ := List.getElem?_eq_some_iff.1 h
  rw [List.take_succ_eq_append_getElem hk, relN_snoc, he]
theorem validR_all {rs : List (ByteArray × List (List Rel))} (h : validR rs = true) : ∀ r ∈ rs, validC r.2 = true := by
  intro r hr
  obtain ⟨i, hi, rfl⟩ := List.getElem_of_mem hr
  have := List.all_eq_true.1 h i (List.mem_range.2 hi)
  simp only [ruleOk, Bool.and_eq_true] at this
  have h2 := this.1.2
  simpa [List.getD, List.getElem?_eq_getElem hi] using h2
theorem validC_all {c : List (List Rel)} (h : validC c = true) : ∀ l ∈ c, ∀ r ∈ l, properV r = true := by
  intro l hl r hr
  simp only [validC, Bool.and_eq_true] at h
  have h1 := List.all_eq_true.1 h.1.1 l hl
  simp only [listOk, Bool.and_eq_true] at h1
  exact List.all_eq_true.1 h1.2 r hr
theorem perm_bd {op md : Int} (h : permV op md = true) : 2 ≤ md ∧ md ≤ 100 := by
  unfold permV at h
  split at h
  · simp at h
    omega
  · split at h
    · simp at h
      omega
    · cases h
theorem proper_md {r : Rel} (h : properV r = true) : r.md = 0 ∨ 2 ≤ r.md ∧ r.md ≤ 100 := by
  simp only [properV, Bool.and_eq_true, Bool.or_eq_true, decide_eq_true_eq] at h
  rcases h.1.1.1.2 with h | h
  · exact .inl h
  · exact .inr (perm_bd h)
end Go.Proofs.YtadhblppeaamlaaGreatDoor
/- Plain: what the functions on numbers answer. -/
namespace Go.Proofs.YtadhblppeaamlaaGreatDoor
/-- the text of a number, or ErrRange -/
def permD (n : Bool) (a f : List UInt8) : List UInt8 × Nat := if 15 < a.length ∨ 6 < f.length then ([], 2) else (textD n a f, 0)

/-- what Shift makes of the parts for n -/
def shW (a f : List UInt8) (n : Int) : List UInt8 :=
  if 0 ≤ n then trimmedD (a ++ (f ++ List.replicate n.toNat 48).take n.toNat)
  else trimmedD ((List.replicate (-n).toNat 48 ++ a).take (a.length))
def shF (a f : List UInt8) (n : Int) : List UInt8 :=
  if 0 ≤ n then f.drop (min n.toNat f.length) else (List.replicate (-n).toNat 48 ++ a).drop a.length ++ f
def shiftD (l : List UInt8) (n : Int) : List UInt8 × Nat :=
  if dOk l = false then ([], 1) else permD (dNeg l) (shW (dWhole l) (dFrac l) (max (min n 40) (-40))) (shF (dWhole l) (dFrac l) (max (min n 40) (-40)))

/-- an operand, and the error -/
def opV (l : List UInt8) (op : Int) : Nat × Nat :=
  if dOk l = false then (0, 1)
  else if op = 1 then (if allZ (dFrac l) then (valD (dWhole l), 0) else (0, 8))
  else if op = 2 then (valD (dWhole l), 0)
  else if op = 3 then ((dFrac l).length, 0)
  else if op = 4 then ((trimZ (dFrac l)).length, 0)
  else if op = 5 then (valD (dFrac l), 0)
  else if op = 6 then (valD (trimZ (dFrac l)), 0)
  else (0, 1)

/-- the integer that a number is -/
def intV (l : List UInt8) : Int × Bool := if dOk l = true ∧ allZ (dFrac l) = true then (if dNeg l then -((valD (dWhole l) : Nat) : Int) else ((valD (dWhole l) : Nat) : Int), true) else (0, false)
/-- a number in its normal form -/
def normD (l : List UInt8) : List UInt8 × Nat := if dOk l = true then (textD (dNeg l) (dWhole l) (trimZ (dFrac l)), 0) else ([], 1)
theorem intV_no {l : List UInt8} (h : dOk l = false) : intV l = (0, false) := by unfold intV; rw [if_neg (by rw [h]; simp)]
theorem intV_frac {l : List UInt8} (h : allZ (dFrac l) = false) : intV l = (0, false) := by unfold intV; rw [if_neg (by rw [h]; simp)]
theorem intV_pos {l : List UInt8} (ho : dOk l = true) (hz : allZ (dFrac l) = true) (hn : dNeg l = false) : intV l = (((valD (dWhole l) : Nat) : Int), true) := by unfold intV; rw [if_pos ⟨ho, hz⟩, if_neg (by rw [hn]; simp)]
theorem intV_neg {l : List UInt8} (ho : dOk l = true) (hz : allZ (dFrac l) = true) (hn : dNeg l = true) : intV l = (-((valD (dWhole l) : Nat) : Int), true) := by unfold intV; rw [if_pos ⟨ho, hz⟩, if_pos hn]
theorem normD_no {l : List UInt8} (h : dOk l = false) : normD l = ([], 1) := by unfold normD; rw [if_neg (by rw [h]; simp)]
theorem normD_yes {l : List UInt8} (h : dOk l = true) : normD l = (textD (dNeg l) (dWhole l) (trimZ (dFrac l)), 0) := by unfold normD; rw [if_pos h]
end Go.Proofs.YtadhblppeaamlaaGreatDoor
