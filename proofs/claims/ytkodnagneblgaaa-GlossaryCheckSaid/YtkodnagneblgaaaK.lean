/- Plain lemmas on worlds, slices and contracts, over any program. -/
import Derived.Test.YtkodnagneblgaaaRows
import Derived.WalkKit
import Derived.WalkSpells
import Derived.WalkLawsBesides
import Derived.Lib.Hide
import Derived.BigQuiet
import Derived.Deep.QuietTactic
import Derived.Lib.ConvBytes
namespace Go.Proofs.Ytkodnagneblgaaa
open Go.RowKit

/-- The slice value '.slice ad n c' reads in w as the cells xs, from block b, offset off on. -/
structure SlAt (w : World) (ad : Option Addr) (n : Nat) (xs : List Value) (b off : Nat) : Prop where
  len : xs.length = n
  max : n ≤ 9223372036854775807
  adr : n ≠ 0 → ad = some ⟨b, off, none⟩
  cell : ∀ i (_h : i < n), w.cell? ⟨b, off + i, none⟩ = some (xs.getD i undef)

/-- .. from some place on. -/
def Sl (w : World) (ad : Option Addr) (n : Nat) (xs : List Value) : Prop := ∃ b off, SlAt w ad n xs b off

theorem SlAt.ix {P : Program} {w : World} {ad : Option Addr} {n c : Nat} {xs : List Value} {b off k : Nat} (h : SlAt w ad n xs b off) (T E : TypeId)
    (hT : P.underlying T = some (.slice E)) (hE : P.cellsOf E = 1) (hk : k < n) (W : World) :
    (Instr.indexAt T (.slice ad n c) (.int .i64 (k : Int))).run P W = .ok (.pointer (some ⟨b, off + k, none⟩)) W := by
  rw [h.adr (by omega)]
  have hel : P.elem T = E := by simp [Program.elem, hT]
  rw [run_indexAt_slice W T _ n c .i64 k (by rw [hel]; exact hT), hel, if_pos (by omega)]
  have hs : (sizeOf E).run P W = .ok 1 W := by
    unfold Program.cellsOf at hE
    cases hi : P.info? E with
    | none => simp [hi] at hE
    | some i => simp [hi] at hE; simp [sizeOf, typeInfo, hi, hE]
  rw [hs]
  simp [Result.andThen, Addr.add]

theorem SlAt.block {w : World} {ad : Option Addr} {n : Nat} {xs : List Value} {b off : Nat} (h : SlAt w ad n xs b off) (hn : n ≠ 0) : b < w.heap.size := by
  have := h.cell 0 (by omega)
  exact World.block_lt_of_cell? w _ this

theorem SlAt.below {w w' : World} {ad : Option Addr} {n : Nat} {xs : List Value} {b off : Nat} (h : SlAt w ad n xs b off) (hb : Below w.heap.size w w') : SlAt w' ad n xs b off :=
  ⟨h.len, h.max, h.adr, fun i hi => by rw [hb.cell (p := ⟨b, off + i, none⟩) (h.block (by omega))]; exact h.cell i hi⟩


theorem getD_map_u8 (bs : List UInt8) (k : Nat) (h : k < bs.length) : (bs.map fun x => Value.int .u8 (x.toNat : Int)).getD k undef = .int .u8 ((bs.getD k 0).toNat : Int) := by
  simp [List.getD, List.getElem?_map, List.getElem?_eq_getElem h]

/-- the bytes of a slice -/
def u8s (bs : List UInt8) : List Value := bs.map fun x => .int .u8 (x.toNat : Int)
theorem u8s_getD (bs : List UInt8) (k : Nat) (h : k < bs.length) : (u8s bs).getD k undef = .int .u8 ((bs.getD k 0).toNat : Int) := getD_map_u8 bs k h
theorem u8s_length (bs : List UInt8) : (u8s bs).length = bs.length := by simp [u8s]

theorem foldl_take_succ {α β : Type} (f : α → β → α) (l : List β) (a : α) (k : Nat) (h : k < l.length) (d : β) :
    (l.take (k + 1)).foldl f a = f ((l.take k).foldl f a) (l.getD k d) := by
  rw [List.take_succ_eq_append_getElem h, List.foldl_append]
  simp [List.getD, List.getElem?_eq_getElem h]


/-- the numbers of a slice of int -/
def ints (zs : List Int) : List Value := zs.map (.int .i64)
theorem ints_length (zs : List Int) : (ints zs).length = zs.length := by simp [ints]
theorem ints_getD (zs : List Int) (k : Nat) (h : k < zs.length) : (ints zs).getD k undef = .int .i64 (zs.getD k 0) := by
  simp [ints, List.getD, List.getElem?_map, List.getElem?_eq_getElem h]
/-- the strings of a slice -/
def strs (ss : List ByteArray) : List Value := ss.map .string
theorem strs_length (ss : List ByteArray) : (strs ss).length = ss.length := by simp [strs]
theorem strs_getD (ss : List ByteArray) (k : Nat) (h : k < ss.length) : (strs ss).getD k undef = .string (ss.getD k .empty) := by
  simp [strs, List.getD, List.getElem?_map, List.getElem?_eq_getElem h]
theorem getD_mem {α : Type} (l : List α) (k : Nat) (d : α) (h : k < l.length) : l.getD k d ∈ l := by
  simp [List.getD, List.getElem?_eq_getElem h]

theorem any_take_succ {α : Type} (p : α → Bool) (l : List α) (k : Nat) (h : k < l.length) (d : α) : (l.take (k + 1)).any p = ((l.take k).any p || p (l.getD k d)) := by
  rw [List.take_succ_eq_append_getElem h, List.any_append]
  simp [List.getD, List.getElem?_eq_getElem h]
theorem any_of_getD {α : Type} (p : α → Bool) (l : List α) (k : Nat) (h : k < l.length) (d : α) (hp : p (l.getD k d) = true) : l.any p = true :=
  List.any_eq_true.2 ⟨_, getD_mem l k d h, hp⟩
theorem all_take_succ {α : Type} (p : α → Bool) (l : List α) (k : Nat) (h : k < l.length) (d : α) : (l.take (k + 1)).all p = ((l.take k).all p && p (l.getD k d)) := by
  rw [List.take_succ_eq_append_getElem h, List.all_append]
  simp [List.getD, List.getElem?_eq_getElem h]
theorem all_of_getD {α : Type} (p : α → Bool) (l : List α) (k : Nat) (h : k < l.length) (d : α) (hp : p (l.getD k d) = false) : l.all p = false := by
  rw [← Bool.not_eq_true, List.all_eq_true]
  intro ha
  have := ha _ (getD_mem l k d h)
  rw [hp] at this
  cases this

theorem ret_int {k : IntKind} {a b : Int} (h : a = b) : Ending.returned (.int k a) = .returned (.int k b) := by rw [h]
theorem ret_bool {a b : Bool} (h : a = b) : Ending.returned (.bool a) = .returned (.bool b) := by rw [h]

theorem Sl.below {w w' : World} {ad : Option Addr} {n : Nat} {xs : List Value} (h : Sl w ad n xs) (hb : Below w.heap.size w w') : Sl w' ad n xs := by
  obtain ⟨b, off, h⟩ := h
  exact ⟨b, off, h.below hb⟩

theorem Sl.alloc {w : World} {ad : Option Addr} {n : Nat} {xs : List Value} (h : Sl w ad n xs) (o : Obj) : Sl (w.alloc o) ad n xs := h.below ((Below.refl _ _).alloc (Nat.le_refl _) _)
theorem Sl.drewN {w : World} {ad : Option Addr} {n : Nat} {xs : List Value} (h : Sl w ad n xs) (k : Nat) : Sl (w.drewN k) ad n xs := h.below ⟨rfl, rfl, rfl, Nat.le_refl _, fun _ _ => rfl⟩
theorem Sl.len {w : World} {ad : Option Addr} {n : Nat} {xs : List Value} (h : Sl w ad n xs) : xs.length = n := by obtain ⟨b, off, h⟩ := h; exact h.len
theorem Sl.max {w : World} {ad : Option Addr} {n : Nat} {xs : List Value} (h : Sl w ad n xs) : n ≤ 9223372036854775807 := by obtain ⟨b, off, h⟩ := h; exact h.max

theorem bytes_below (w : World) (e : TypeId) (s : ByteArray) : Below w.heap.size w (Lib.bytesWorld w e s) :=
  ⟨rfl, rfl, rfl, by rw [Lib.bytesWorld_size]; omega, fun k hk => Lib.bytesWorld_at_old w e s k hk⟩

theorem ba_len (s : ByteArray) : s.data.toList.length = s.size := by rw [Array.length_toList]; rfl

theorem bytes_sl (w : World) (e : TypeId) (s : ByteArray) (hs : s.size ≤ 9223372036854775807) : Sl (Lib.bytesWorld w e s) (some ⟨w.heap.size, 0, none⟩) s.size (u8s s.data.toList) := by
  refine ⟨w.heap.size, 0, ⟨by rw [u8s_length, ba_len], hs, fun _ => rfl, fun i hi => ?_⟩⟩
  rw [u8s_getD _ _ (by rw [ba_len]; exact hi), Nat.zero_add]
  exact Lib.bytesWorld_cell w e s i hi

/-- A world that has grown from w: what was there is as it was. -/
def Ext (w : World) := { x : World // Below w.heap.size w x }
instance (w : World) : Nonempty (Ext w) := ⟨⟨w, Below.refl _ _⟩⟩
theorem Ext.cell {w : World} (e : Ext w) (a : Addr) (h : a.block < w.heap.size) : e.1.cell? a = w.cell? a := e.2.cell h
theorem Ext.frozen {w : World} (e : Ext w) (a : Addr) (h : a.block < w.heap.size) : e.1.frozen? a = w.frozen? a := e.2.frozen h
theorem Calls.ext {P : Program} {f : FuncId} {args : Array Value} {w : World} {e : Ext w} {v : Value}
    (h : Calls P f args e.1 fun e' w' => e' = .returned v ∧ Below e.1.heap.size e.1 w') : Calls P f args e.1 fun e' w'' => e' = .returned v ∧ ∃ e2 : Ext w, w'' = e2.1 :=
  h.mono fun _ w' ⟨he, hb⟩ => ⟨he, ⟨w', e.2.trans (hb.mono e.2.size)⟩, rfl⟩
theorem Calls.ext_same {P : Program} {f : FuncId} {args : Array Value} {w : World} {e : Ext w} {v : Value}
    (h : Calls P f args e.1 fun e' w' => e' = .returned v ∧ e.1 = w') : Calls P f args e.1 fun e' w'' => e' = .returned v ∧ ∃ e2 : Ext w, w'' = e2.1 :=
  h.mono fun _ _w' ⟨he, hb⟩ => ⟨he, e, hb.symm⟩
/-- A region that draws its order, whose operations read, and whose callees make memory at most: one walk, in the order of the text. -/
theorem wp_region_ext {P : Program} {id : Nat} {Q : Exit → Act → World → Prop} {a : Act} {w : World} {l : List Oper} (hm : P.follows .mixedOrders = true) (hB : Region.lexB .any l.toArray = true)
    (h : wpQuiet P l.toArray (fun w' => ∃ e : Ext w, w' = e.1) (fun a' => ∀ w', (∃ e : Ext w, w' = e.1) → Q .normal a' w') l a) : (Code.region id l.toArray true).wp P Q a w :=
  wp_region_quiet (C := fun w' => ∃ e : Ext w, w' = e.1) hm hB ⟨⟨_, (Below.refl _ w).drew⟩, rfl⟩ (by simpa using h)
theorem Sl.ext {w : World} {ad : Option Addr} {n : Nat} {xs : List Value} (h : Sl w ad n xs) (e : Ext w) : Sl e.1 ad n xs := h.below e.2
theorem box_below (w : World) (o : Obj) (k : Nat) : Below w.heap.size w ((w.alloc o).drewN k) :=
  ((Below.refl _ w).alloc (Nat.le_refl _) o).trans ⟨rfl, rfl, rfl, Nat.le_refl _, fun _ _ => rfl⟩
theorem ext_below (w : World) (o : Obj) (e : Ext (w.alloc o)) : Below w.heap.size w e.1 :=
  ((Below.refl _ w).alloc (Nat.le_refl _) o).trans (e.2.mono (by simp))

/-- the block of a slice's address -/
theorem own_form {w : World} {base : Nat} {E : TypeId} {v : Value} {n : Nat} {xs : List Value} (h : w.ownsRow base E 1 v n xs) : ∃ ad c, v = .slice ad n c := by
  obtain ⟨_, ⟨rfl, rfl⟩ | ⟨g, cap, cur, rfl, _⟩⟩ := h
  · exact ⟨_, _, rfl⟩
  · exact ⟨_, _, rfl⟩

theorem Own.sl {w : World} {base : Nat} {E : TypeId} {ad : Option Addr} {n c : Nat} {xs : List Value} (h : w.ownsRow base E 1 (.slice ad n c) n xs) : Sl w ad n xs := by
  have hl : xs.length = n := by have := h.1; omega
  obtain ⟨_, ⟨h1, h2⟩ | ⟨g, cap, cur, h1, h2, h3, h4, h5, h6, h7⟩⟩ := h
  · subst h2
    exact ⟨0, 0, hl, by omega, fun h => absurd rfl h, fun i hi => absurd hi (Nat.not_lt_zero _)⟩
  · injection h1 with e1 e2 e3
    subst e1
    refine ⟨g, 0, hl, by unfold maxLen at h5; omega, fun _ => rfl, fun i hi => ?_⟩
    have hi' : i < cur.size := by omega
    have hx : xs.getD i undef = cur[i] := by
      rw [← h7]
      simp only [List.getD, Nat.mul_one]
      rw [List.getElem?_take, if_pos hi]
      simp [hi']
    rw [hx]
    simp [World.cell?, h3, hi']

theorem Own.lt {w : World} {base : Nat} {E : TypeId} {ad : Option Addr} {n c : Nat} {xs : List Value} (h : w.ownsRow base E 1 (.slice ad n c) n xs) :
    ∀ k, Value.ownBlock (.slice ad n c) = some k → base ≤ k ∧ k < w.heap.size := World.ownsRow.lt h

theorem Own.below {w w' : World} {base : Nat} {E : TypeId} {v : Value} {n : Nat} {xs : List Value} (h : w.ownsRow base E 1 v n xs) (hb : Below w.heap.size w w') : w'.ownsRow base E 1 v n xs := by
  refine ⟨h.1, ?_⟩
  rcases h.2 with h2 | ⟨g, cap, cur, h1, h2, h3, h4, h5, h6, h7⟩
  · exact .inl h2
  · have hg : g < w.heap.size := by
      rcases Nat.lt_or_ge g w.heap.size with h' | h'
      · exact h'
      · simp [Array.getElem?_eq_none h'] at h3
    exact .inr ⟨g, cap, cur, h1, h2, (hb.block g hg).trans h3, h4, h5, h6, h7⟩

theorem Own.rebase {w : World} {base base' : Nat} {E : TypeId} {v : Value} {n : Nat} {xs : List Value} (h : w.ownsRow base E 1 v n xs) (hb : base' ≤ base) : w.ownsRow base' E 1 v n xs := by
  refine ⟨h.1, ?_⟩
  rcases h.2 with h2 | ⟨g, cap, cur, h1, h2, h3⟩
  · exact .inl h2
  · exact .inr ⟨g, cap, cur, h1, by omega, h3⟩

/-- append of one element to a slice of the call's own -/
theorem wpList_app {P : Program} {ops : Array Oper} {rest : List Oper} {o : Oper} {a : Act} {Q : Exit → Act → World → Prop} {w : World} (t E : TypeId) (bytes : Nat)
    (ht : P.underlying t = some (.slice E)) (i : TypeInfo) (z : Value) (hi : P.info? E = some i) (hz : i.zero = some z) (hsize : i.size = 1) (hby : i.bytes = bytes) (hzs : z.cells.size = 1)
    (hgd : o.guard = none) (s x : Operand) (ho : o.op = .call { callee := .builtin .append, args := #[s, x], argTypes := #[t, t] })
    (base : Nat) (ad : Option Addr) (n c : Nat) (xs : List Value) (hs : a.eval s = .slice ad n c) (hown : w.ownsRow base E 1 (.slice ad n c) n xs)
    (y : Value) (E' : TypeId) (hx : a.eval x = .slice (some ⟨w.heap.size, 0, none⟩) 1 1) (hy : y.oneCell' = true)
    (h63 : n + 1 ≤ maxLen) (hbytes : (n + 1) * bytes ≤ 140737488355328) (hbase : base ≤ w.heap.size)
    (h : ∀ ad' c' w', w'.ownsRow base E 1 (.slice ad' (n + 1) c') (n + 1) (xs ++ [y]) → Below base w w' → w.grownBy w' (Value.ownBlock (.slice ad n c)) → w.heap.size < w'.heap.size →
      wpList P ops Q rest (a.put o.dst (.slice ad' (n + 1) c')) w') : wpList P ops Q (o :: rest) a (w.alloc (.cells #[y] E')) := by
  refine wpList_append_own _ hgd s x t ho base E i z 1 bytes ht hi hz hsize hby hzs (by omega) (.slice ad n c) n xs hs (World.ownsRow.alloc hown _) ⟨w.heap.size, 0, none⟩ 1 1 [y] hx rfl (cell_one_new _ _ _)
    (by simpa using hy) h63 hbytes (by simp; omega) ?_
  intro v' w' h1 h2 _
  obtain ⟨ad', c', rfl⟩ := own_form h1
  have hlt := Own.lt hown
  refine h ad' c' w' h1 ?_ ?_ (by have := h2.size; simp at this; omega)
  · exact ((Below.refl base w).alloc hbase _).grown h2 (by simp; omega) (fun k hk => (hlt k hk).1)
  · exact ⟨h2.os, h2.tape, h2.output, by have := h2.size; simp at this; omega, fun k hk hne => (h2.block k (by simp; omega) hne).trans (Below.heap_alloc _ _ _ hk)⟩

theorem u64_wrap_bd (x : Int) : 0 ≤ IntKind.u64.wrap x ∧ IntKind.u64.wrap x ≤ 18446744073709551615 := by
  rw [IntKind.wrap_u64]; omega


theorem Calls.toExt {P : Program} {f : FuncId} {args : Array Value} {w : World} {v : Value}
    (h : Calls P f args w fun e w' => e = .returned v ∧ Below w.heap.size w w') : Calls P f args w fun e w' => e = .returned v ∧ ∃ x : Ext w, w' = x.1 :=
  h.mono fun _ w' ⟨he, hb⟩ => ⟨he, ⟨w', hb⟩, rfl⟩
/-- nothing that was there has changed -/
def Bel (w X : World) : Prop := Below w.heap.size w X
theorem Bel.refl (w : World) : Bel w w := Below.refl _ _
theorem Bel.alloc {w X : World} (h : Bel w X) (o : Obj) : Bel w (X.alloc o) := Below.alloc h h.size _
theorem Bel.ext {w X : World} (h : Bel w X) (x : Ext X) : Bel w x.1 := Below.trans h (x.2.mono h.size)
theorem Bel.drewN {w X : World} (h : Bel w X) (n : Nat) : Bel w (X.drewN n) := Below.trans h ⟨rfl, rfl, rfl, Nat.le_refl _, fun _ _ => rfl⟩
theorem Bel.drew {w X : World} (h : Bel w X) : Bel w X.drew := Below.drew h
theorem Bel.setCell {w X : World} (h : Bel w X) (p : Addr) (v : Value) (hp : w.heap.size ≤ p.block) : Bel w (X.setCell p v) := Below.setCell h (p := p) hp v
theorem Bel.set3 {w X : World} (h : Bel w X) (a b c : Value) : Bel w (((X.setCell ⟨w.heap.size, 0, none⟩ a).setCell ⟨w.heap.size, 1, none⟩ b).setCell ⟨w.heap.size, 2, none⟩ c) :=
  ((h.setCell _ _ (Nat.le_refl _)).setCell _ _ (Nat.le_refl _)).setCell _ _ (Nat.le_refl _)
theorem Bel.out {w X : World} (h : Bel w X) : Below w.heap.size w X := h
theorem below_drew1 (w : World) : Below w.heap.size w w.drew := (Below.refl _ w).drew
end Go.Proofs.Ytkodnagneblgaaa
