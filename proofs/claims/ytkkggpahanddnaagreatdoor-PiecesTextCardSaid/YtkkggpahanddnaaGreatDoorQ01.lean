/- Plain lemmas on worlds, slices and contracts, over any program. -/
import Derived.Test.YtkkggpahanddnaaGreatDoorRows
import Derived.WalkKit
import Derived.WalkSpells
import Derived.WalkLawsBesides
import Derived.Lib.Hide
import Derived.BigQuiet
import Derived.Deep.QuietTactic
import Derived.Lib.ConvBytes
import Derived.StillTail
import Derived.Deep.RegionHeld3
import Derived.Deep.AppendLies
import Derived.Deep.DrawnRows
import Derived.Laws.AppendOwnNone
namespace Go.Proofs.YtkkggpahanddnaaGreatDoor
open Go.RowKit

/-- The slice value '.slice ad n c' reads in w as the cells xs, from block b, offset off on. -/
structure SlAt (w : World) (ad : Option Addr) (n : Nat) (xs : List Value) (b off : Nat) : Prop where
  len : xs.length = n
  max : n ≤ 9223372036854775807
  adr : n ≠ 0 → ad = some ⟨b, off, none⟩
  cell : ∀ i (_h : i < n), w.cell? ⟨b, off + i, none⟩ = some (xs.getD i undef)

/-- .. from some place on. -/
def Sl (w : World) (ad : Option Addr) (n : Nat) (xs : List Value) : Prop := ∃ b off, SlAt w ad n xs b off

theorem SlAt.ix {P : Program} {w : World} {ad : Option Addr} {n c : Nat} {xs : List Value} {b off k : Nat} (h : SlAt w ad n xs b off) (T E : TypeId)
    (hT : P.underlying T = some (.slice E)) (hE : P.cellsOf E = 1) (hk : k < n) (W : World) :
    (Instr.indexAt T (.slice ad n c) (.int .i64 (k : Int))).run P W = .ok (.pointer (some ⟨b, off + k, none⟩)) W := by
  rw [h.adr (by omega)]
  have hel : P.elem T = E := by simp [Program.elem, hT]
  rw [run_indexAt_slice W T _ n c .i64 k (by rw [hel]; exact hT), hel, if_pos (by omega)]
  have hs : (sizeOf E).run P W = .ok 1 W := by
    unfold Program.cellsOf at hE
    cases hi : P.info? E with
    | none => simp [hi] at hE
    | some i => simp [hi] at hE; simp [sizeOf, typeInfo, hi, hE]
  rw [hs]
  simp [Result.andThen, Addr.add]

theorem SlAt.block {w : World} {ad : Option Addr} {n : Nat} {xs : List Value} {b off : Nat} (h : SlAt w ad n xs b off) (hn : n ≠ 0) : b < w.heap.size := by
  have := h.cell 0 (by omega)
  exact World.block_lt_of_cell? w _ this

theorem SlAt.below {w w' : World} {ad : Option Addr} {n : Nat} {xs : List Value} {b off : Nat} (h : SlAt w ad n xs b off) (hb : Below w.heap.size w w') : SlAt w' ad n xs b off :=
  ⟨h.len, h.max, h.adr, fun i hi => by rw [hb.cell (p := ⟨b, off + i, none⟩) (h.block (by omega))]; exact h.cell i hi⟩


theorem getD_map_u8 (bs : List UInt8) (k : Nat) (h : k < bs.length) : (bs.map fun x => Value.int .u8 (x.toNat : Int)).getD k undef = .int .u8 ((bs.getD k 0).toNat : Int) := by
  simp [List.getD, List.getElem?_map, List.getElem?_eq_getElem h]

/-- the bytes of a slice -/
def u8s (bs : List UInt8) : List Value := bs.map fun x => .int .u8 (x.toNat : Int)
theorem u8s_getD (bs : List UInt8) (k : Nat) (h : k < bs.length) : (u8s bs).getD k undef = .int .u8 ((bs.getD k 0).toNat : Int) := getD_map_u8 bs k h
theorem u8s_length (bs : List UInt8) : (u8s bs).length = bs.length := by simp [u8s]

theorem foldl_take_succ {α β : Type} (f : α → β → α) (l : List β) (a : α) (k : Nat) (h : k < l.length) (d : β) :
    (l.take (k + 1)).foldl f a = f ((l.take k).foldl f a) (l.getD k d) := by
  rw [List.take_succ_eq_append_getElem h, List.foldl_append]
  simp [List.getD, List.getElem?_eq_getElem h]


/-- the numbers of a slice of int -/
def ints (zs : List Int) : List Value := zs.map (.int .i64)
theorem ints_length (zs : List Int) : (ints zs).length = zs.length := by simp [ints]
theorem ints_getD (zs : List Int) (k : Nat) (h : k < zs.length) : (ints zs).getD k undef = .int .i64 (zs.getD k 0) := by
  simp [ints, List.getD, List.getElem?_map, List.getElem?_eq_getElem h]
/-- the strings of a slice -/
def strs (ss : List ByteArray) : List Value := ss.map .string
theorem strs_length (ss : List ByteArray) : (strs ss).length = ss.length := by simp [strs]
theorem strs_getD (ss : List ByteArray) (k : Nat) (h : k < ss.length) : (strs ss).getD k undef = .string (ss.getD k .empty) := by
  simp [strs, List.getD, List.getElem?_map, List.getElem?_eq_getElem h]
theorem getD_mem {α : Type} (l : List α) (k : Nat) (d : α) (h : k < l.length) : l.getD k d ∈ l := by
  simp [List.getD, List.getElem?_eq_getElem h]

theorem any_take_succ {α : Type} (p : α → Bool) (l : List α) (k : Nat) (h : k < l.length) (d : α) : (l.take (k + 1)).any p = ((l.take k).any p || p (l.getD k d)) := by
  rw [List.take_succ_eq_append_getElem h, List.any_append]
  simp [List.getD, List.getElem?_eq_getElem h]
theorem any_of_getD {α : Type} (p : α → Bool) (l : List α) (k : Nat) (h : k < l.length) (d : α) (hp : p (l.getD k d) = true) : l.any p = true :=
  List.any_eq_true.2 ⟨_, getD_mem l k d h, hp⟩
theorem all_take_succ {α : Type} (p : α → Bool) (l : List α) (k : Nat) (h : k < l.length) (d : α) : (l.take (k + 1)).all p = ((l.take k).all p && p (l.getD k d)) := by
  rw [List.take_succ_eq_append_getElem h, List.all_append]
  simp [List.getD, List.getElem?_eq_getElem h]
theorem all_of_getD {α : Type} (p : α → Bool) (l : List α) (k : Nat) (h : k < l.length) (d : α) (hp : p (l.getD k d) = false) : l.all p = false := by
  rw [← Bool.not_eq_true, List.all_eq_true]
  intro ha
  have := ha _ (getD_mem l k d h)
  rw [hp] at this
  cases this

theorem ret_int {k : IntKind} {a b : Int} (h : a = b) : Ending.returned (.int k a) = .returned (.int k b) := by rw [h]
theorem ret_bool {a b : Bool} (h : a = b) : Ending.returned (.bool a) = .returned (.bool b) := by rw [h]

theorem Sl.below {w w' : World} {ad : Option Addr} {n : Nat} {xs : List Value} (h : Sl w ad n xs) (hb : Below w.heap.size w w') : Sl w' ad n xs := by
  obtain ⟨b, off, h⟩ := h
  exact ⟨b, off, h.below hb⟩

theorem Sl.alloc {w : World} {ad : Option Addr} {n : Nat} {xs : List Value} (h : Sl w ad n xs) (o : Obj) : Sl (w.alloc o) ad n xs := h.below ((Below.refl _ _).alloc (Nat.le_refl _) _)
theorem Sl.drewN {w : World} {ad : Option Addr} {n : Nat} {xs : List Value} (h : Sl w ad n xs) (k : Nat) : Sl (w.drewN k) ad n xs := h.below ⟨rfl, rfl, rfl, Nat.le_refl _, fun _ _ => rfl⟩
theorem Sl.len {w : World} {ad : Option Addr} {n : Nat} {xs : List Value} (h : Sl w ad n xs) : xs.length = n := by obtain ⟨b, off, h⟩ := h; exact h.len
theorem Sl.max {w : World} {ad : Option Addr} {n : Nat} {xs : List Value} (h : Sl w ad n xs) : n ≤ 9223372036854775807 := by obtain ⟨b, off, h⟩ := h; exact h.max

theorem bytes_below (w : World) (e : TypeId) (s : ByteArray) : Below w.heap.size w (Lib.bytesWorld w e s) :=
  ⟨rfl, rfl, rfl, by rw [Lib.bytesWorld_size]; omega, fun k hk => Lib.bytesWorld_at_old w e s k hk⟩

theorem ba_len (s : ByteArray) : s.data.toList.length = s.size := by rw [Array.length_toList]; rfl

theorem bytes_sl (w : World) (e : TypeId) (s : ByteArray) (hs : s.size ≤ 9223372036854775807) : Sl (Lib.bytesWorld w e s) (some ⟨w.heap.size, 0, none⟩) s.size (u8s s.data.toList) := by
  refine ⟨w.heap.size, 0, ⟨by rw [u8s_length, ba_len], hs, fun _ => rfl, fun i hi => ?_⟩⟩
  rw [u8s_getD _ _ (by rw [ba_len]; exact hi), Nat.zero_add]
  exact Lib.bytesWorld_cell w e s i hi

/-- A world that has grown from w: what was there is as it was. -/
def Ext (w : World) := { x : World // Below w.heap.size w x }
instance (w : World) : Nonempty (Ext w) := ⟨⟨w, Below.refl _ _⟩⟩
theorem Ext.cell {w : World} (e : Ext w) (a : Addr) (h : a.block < w.heap.size) : e.1.cell? a = w.cell? a := e.2.cell h
theorem Ext.frozen {w : World} (e : Ext w) (a : Addr) (h : a.block < w.heap.size) : e.1.frozen? a = w.frozen? a := e.2.frozen h
theorem Calls.ext {P : Program} {f : FuncId} {args : Array Value} {w : World} {e : Ext w} {v : Value}
    (h : Calls P f args e.1 fun e' w' => e' = .returned v ∧ Below e.1.heap.size e.1 w') : Calls P f args e.1 fun e' w'' => e' = .returned v ∧ ∃ e2 : Ext w, w'' = e2.1 :=
  h.mono fun _ w' ⟨he, hb⟩ => ⟨he, ⟨w', e.2.trans (hb.mono e.2.size)⟩, rfl⟩
theorem Calls.ext_same {P : Program} {f : FuncId} {args : Array Value} {w : World} {e : Ext w} {v : Value}
    (h : Calls P f args e.1 fun e' w' => e' = .returned v ∧ e.1 = w') : Calls P f args e.1 fun e' w'' => e' = .returned v ∧ ∃ e2 : Ext w, w'' = e2.1 :=
  h.mono fun _ _w' ⟨he, hb⟩ => ⟨he, e, hb.symm⟩
/-- A region that draws its order, whose operations read, and whose callees make memory at most: one walk, in the order of the text. -/
theorem wp_region_ext {P : Program} {id : Nat} {Q : Exit → Act → World → Prop} {a : Act} {w : World} {l : List Oper} (hm : P.follows .mixedOrders = true) (hB : Region.lexB .any l.toArray = true)
    (h : wpQuiet P l.toArray (fun w' => ∃ e : Ext w, w' = e.1) (fun a' => ∀ w', (∃ e : Ext w, w' = e.1) → Q .normal a' w') l a) : (Code.region id l.toArray true).wp P Q a w :=
  wp_region_quiet (C := fun w' => ∃ e : Ext w, w' = e.1) hm hB ⟨⟨_, (Below.refl _ w).drew⟩, rfl⟩ (by simpa using h)
theorem Sl.ext {w : World} {ad : Option Addr} {n : Nat} {xs : List Value} (h : Sl w ad n xs) (e : Ext w) : Sl e.1 ad n xs := h.below e.2
theorem box_below (w : World) (o : Obj) (k : Nat) : Below w.heap.size w ((w.alloc o).drewN k) :=
  ((Below.refl _ w).alloc (Nat.le_refl _) o).trans ⟨rfl, rfl, rfl, Nat.le_refl _, fun _ _ => rfl⟩
theorem ext_below (w : World) (o : Obj) (e : Ext (w.alloc o)) : Below w.heap.size w e.1 :=
  ((Below.refl _ w).alloc (Nat.le_refl _) o).trans (e.2.mono (by simp))

/-- the block of a slice's address -/
theorem own_form {w : World} {base : Nat} {E : TypeId} {v : Value} {n : Nat} {xs : List Value} (h : w.ownsRow base E 1 v n xs) : ∃ ad c, v = .slice ad n c := by
  obtain ⟨_, ⟨rfl, rfl⟩ | ⟨g, cap, cur, rfl, _⟩⟩ := h
  · exact ⟨_, _, rfl⟩
  · exact ⟨_, _, rfl⟩

theorem Own.sl {w : World} {base : Nat} {E : TypeId} {ad : Option Addr} {n c : Nat} {xs : List Value} (h : w.ownsRow base E 1 (.slice ad n c) n xs) : Sl w ad n xs := by
  have hl : xs.length = n := by have := h.1; omega
  obtain ⟨_, ⟨h1, h2⟩ | ⟨g, cap, cur, h1, h2, h3, h4, h5, h6, h7⟩⟩ := h
  · subst h2
    exact ⟨0, 0, hl, by omega, fun h => absurd rfl h, fun i hi => absurd hi (Nat.not_lt_zero _)⟩
  · injection h1 with e1 e2 e3
    subst e1
    refine ⟨g, 0, hl, by unfold maxLen at h5; omega, fun _ => rfl, fun i hi => ?_⟩
    have hi' : i < cur.size := by omega
    have hx : xs.getD i undef = cur[i] := by
      rw [← h7]
      simp only [List.getD, Nat.mul_one]
      rw [List.getElem?_take, if_pos hi]
      simp [hi']
    rw [hx]
    simp [World.cell?, h3, hi']

theorem Own.lt {w : World} {base : Nat} {E : TypeId} {ad : Option Addr} {n c : Nat} {xs : List Value} (h : w.ownsRow base E 1 (.slice ad n c) n xs) :
    ∀ k, Value.ownBlock (.slice ad n c) = some k → base ≤ k ∧ k < w.heap.size := World.ownsRow.lt h

theorem Own.below {w w' : World} {base : Nat} {E : TypeId} {v : Value} {n : Nat} {xs : List Value} (h : w.ownsRow base E 1 v n xs) (hb : Below w.heap.size w w') : w'.ownsRow base E 1 v n xs := by
  refine ⟨h.1, ?_⟩
  rcases h.2 with h2 | ⟨g, cap, cur, h1, h2, h3, h4, h5, h6, h7⟩
  · exact .inl h2
  · have hg : g < w.heap.size := by
      rcases Nat.lt_or_ge g w.heap.size with h' | h'
      · exact h'
      · simp [Array.getElem?_eq_none h'] at h3
    exact .inr ⟨g, cap, cur, h1, h2, (hb.block g hg).trans h3, h4, h5, h6, h7⟩

theorem Own.rebase {w : World} {base base' : Nat} {E : TypeId} {v : Value} {n : Nat} {xs : List Value} (h : w.ownsRow base E 1 v n xs) (hb : base' ≤ base) : w.ownsRow base' E 1 v n xs := by
  refine ⟨h.1, ?_⟩
  rcases h.2 with h2 | ⟨g, cap, cur, h1, h2, h3⟩
  · exact .inl h2
  · exact .inr ⟨g, cap, cur, h1, by omega, h3⟩

/-- append of one element to a slice of the call's own -/
theorem wpList_app {P : Program} {ops : Array Oper} {rest : List Oper} {o : Oper} {a : Act} {Q : Exit → Act → World → Prop} {w : World} (t E : TypeId) (bytes : Nat)
    (ht : P.underlying t = some (.slice E)) (i : TypeInfo) (z : Value) (hi : P.info? E = some i) (hz : i.zero = some z) (hsize : i.size = 1) (hby : i.bytes = bytes) (hzs : z.cells.size = 1)
    (hgd : o.guard = none) (s x : Operand) (ho : o.op = .call { callee := .builtin .append, args := #[s, x], argTypes := #[t, t] })
    (base : Nat) (ad : Option Addr) (n c : Nat) (xs : List Value) (hs : a.eval s = .slice ad n c) (hown : w.ownsRow base E 1 (.slice ad n c) n xs)
    (y : Value) (E' : TypeId) (hx : a.eval x = .slice (some ⟨w.heap.size, 0, none⟩) 1 1) (hy : y.oneCell' = true)
    (h63 : n + 1 ≤ maxLen) (hbytes : (n + 1) * bytes ≤ 140737488355328) (hbase : base ≤ w.heap.size)
    (h : ∀ ad' c' w', w'.ownsRow base E 1 (.slice ad' (n + 1) c') (n + 1) (xs ++ [y]) → Below base w w' → w.grownBy w' (Value.ownBlock (.slice ad n c)) → w.heap.size < w'.heap.size →
      wpList P ops Q rest (a.put o.dst (.slice ad' (n + 1) c')) w') : wpList P ops Q (o :: rest) a (w.alloc (.cells #[y] E')) := by
  refine wpList_append_own _ hgd s x t ho base E i z 1 bytes ht hi hz hsize hby hzs (by omega) (.slice ad n c) n xs hs (World.ownsRow.alloc hown _) ⟨w.heap.size, 0, none⟩ 1 1 [y] hx rfl (cell_one_new _ _ _)
    (by simpa using hy) h63 hbytes (by simp; omega) ?_
  intro v' w' h1 h2 _
  obtain ⟨ad', c', rfl⟩ := own_form h1
  have hlt := Own.lt hown
  refine h ad' c' w' h1 ?_ ?_ (by have := h2.size; simp at this; omega)
  · exact ((Below.refl base w).alloc hbase _).grown h2 (by simp; omega) (fun k hk => (hlt k hk).1)
  · exact ⟨h2.os, h2.tape, h2.output, by have := h2.size; simp at this; omega, fun k hk hne => (h2.block k (by simp; omega) hne).trans (Below.heap_alloc _ _ _ hk)⟩

theorem u64_wrap_bd (x : Int) : 0 ≤ IntKind.u64.wrap x ∧ IntKind.u64.wrap x ≤ 18446744073709551615 := by
  rw [IntKind.wrap_u64]; omega


theorem Calls.toExt {P : Program} {f : FuncId} {args : Array Value} {w : World} {v : Value}
    (h : Calls P f args w fun e w' => e = .returned v ∧ Below w.heap.size w w') : Calls P f args w fun e w' => e = .returned v ∧ ∃ x : Ext w, w' = x.1 :=
  h.mono fun _ w' ⟨he, hb⟩ => ⟨he, ⟨w', hb⟩, rfl⟩
/-- nothing that was there has changed -/
def Bel (w X : World) : Prop := Below w.heap.size w X
theorem Bel.refl (w : World) : Bel w w := Below.refl _ _
theorem Bel.alloc {w X : World} (h : Bel w X) (o : Obj) : Bel w (X.alloc o) := Below.alloc h h.size _
theorem Bel.ext {w X : World} (h : Bel w X) (x : Ext X) : Bel w x.1 := Below.trans h (x.2.mono h.size)
theorem Bel.drewN {w X : World} (h : Bel w X) (n : Nat) : Bel w (X.drewN n) := Below.trans h ⟨rfl, rfl, rfl, Nat.le_refl _, fun _ _ => rfl⟩
theorem Bel.drew {w X : World} (h : Bel w X) : Bel w X.drew := Below.drew h
theorem Bel.setCell {w X : World} (h : Bel w X) (p : Addr) (v : Value) (hp : w.heap.size ≤ p.block) : Bel w (X.setCell p v) := Below.setCell h (p := p) hp v
theorem Bel.set3 {w X : World} (h : Bel w X) (a b c : Value) : Bel w (((X.setCell ⟨w.heap.size, 0, none⟩ a).setCell ⟨w.heap.size, 1, none⟩ b).setCell ⟨w.heap.size, 2, none⟩ c) :=
  ((h.setCell _ _ (Nat.le_refl _)).setCell _ _ (Nat.le_refl _)).setCell _ _ (Nat.le_refl _)
theorem Bel.out {w X : World} (h : Bel w X) : Below w.heap.size w X := h
theorem below_drew1 (w : World) : Below w.heap.size w w.drew := (Below.refl _ w).drew
end Go.Proofs.YtkkggpahanddnaaGreatDoor
/- Plain: documents in pieces and their layouts. -/
namespace Go.Proofs.YtkkggpahanddnaaGreatDoor

/-- all pieces of a document -/
def allV (h : ByteArray) (xs : List ByteArray) (t : ByteArray) : List ByteArray := h :: (xs ++ [t])
theorem allV_len (h : ByteArray) (xs : List ByteArray) (t : ByteArray) : (allV h xs t).length = xs.length + 2 := by simp [allV]
theorem allV_0 (h : ByteArray) (xs : List ByteArray) (t : ByteArray) : (allV h xs t).getD 0 .empty = h := rfl
theorem allV_mid (h : ByteArray) (xs : List ByteArray) (t : ByteArray) {i : Nat} (hi : i < xs.length) : (allV h xs t).getD (i + 1) .empty = xs.getD i .empty := by
  simp [allV, List.getD, List.getElem?_append_left hi]
theorem allV_last (h : ByteArray) (xs : List ByteArray) (t : ByteArray) : (allV h xs t).getD (xs.length + 1) .empty = t := by
  simp [allV, List.getD]
theorem allV_inj {h h' : ByteArray} {xs xs' : List ByteArray} {t t' : ByteArray} (e : allV h xs t = allV h' xs' t') : h = h' ∧ xs = xs' ∧ t = t' := by
  unfold allV at e
  injection e with e1 e2
  obtain ⟨e3, e4⟩ := List.append_inj' e2 rfl
  exact ⟨e1, e3, by injection e4⟩
/-- the piece with an index -/
def getV (l : List ByteArray) (i : Int) : ByteArray × Bool := if 0 ≤ i ∧ i < (l.length : Int) then (l.getD i.toNat .empty, true) else (.empty, false)
theorem getV_in {l : List ByteArray} {i : Nat} (h : i < l.length) : getV l (i : Int) = (l.getD i .empty, true) := by
  unfold getV; rw [if_pos (by omega), Int.toNat_natCast]
theorem getV_out {l : List ByteArray} {i : Int} (h : i < 0 ∨ (l.length : Int) ≤ i) : getV l i = (.empty, false) := by
  unfold getV; rw [if_neg (by omega)]
/-- the bytes of all pieces -/
def catV (l : List ByteArray) : List UInt8 := l.flatMap (·.data.toList)
theorem catV_nil : catV [] = [] := rfl
theorem catV_snoc (l : List ByteArray) (x : ByteArray) : catV (l ++ [x]) = catV l ++ x.data.toList := by simp [catV]
theorem catV_app (l m : List ByteArray) : catV (l ++ m) = catV l ++ catV m := by simp [catV]
theorem catV_take_succ (l : List ByteArray) (k : Nat) (h : k < l.length) : catV (l.take (k + 1)) = catV (l.take k) ++ (l.getD k .empty).data.toList := by
  rw [List.take_succ_eq_append_getElem h, catV_snoc]
  simp [List.getD, List.getElem?_eq_getElem h]
theorem catV_le {l : List ByteArray} {m : Nat} (h : ∀ x ∈ l, x.size ≤ m) : (catV l).length ≤ l.length * m := by
  induction l with
  | nil => simp [catV]
  | cons a l ih =>
    have h1 := ih (fun x hx => h x (List.mem_cons_of_mem _ hx))
    have h2 := h a (List.mem_cons_self ..)
    have e : catV (a :: l) = a.data.toList ++ catV l := rfl
    rw [e, List.length_append, ba_len, List.length_cons, Nat.succ_mul]
    omega
/-- the layout of the first k pieces -/
def diffN (a b : List ByteArray) : Nat → List (Int × ByteArray)
  | 0 => []
  | k + 1 => diffN a b k ++ (if a.getD k .empty = b.getD k .empty then [] else [((k : Int), a.getD k .empty)])
def diffV (a b : List ByteArray) : List (Int × ByteArray) := diffN a b a.length
theorem diffN_same {a b : List ByteArray} {k : Nat} (h : a.getD k .empty = b.getD k .empty) : diffN a b (k + 1) = diffN a b k := by rw [diffN, if_pos h, List.append_nil]
theorem diffN_other {a b : List ByteArray} {k : Nat} (h : a.getD k .empty ≠ b.getD k .empty) : diffN a b (k + 1) = diffN a b k ++ [((k : Int), a.getD k .empty)] := by rw [diffN, if_neg h]
theorem diffN_len (a b : List ByteArray) : ∀ k, (diffN a b k).length ≤ k
  | 0 => Nat.le_refl _
  | k + 1 => by
    have := diffN_len a b k
    rw [diffN, List.length_append]
    split <;> simp <;> omega
theorem getD_ext {a b : List ByteArray} (hl : a.length = b.length) (h : ∀ i, i < a.length → a.getD i .empty = b.getD i .empty) : a = b := by
  apply List.ext_getElem hl
  intro i h1 h2
  have := h i h1
  simpa [List.getD, List.getElem?_eq_getElem h1, List.getElem?_eq_getElem h2] using this
theorem diffN_nil {a b : List ByteArray} : ∀ {k : Nat}, diffN a b k = [] → ∀ i, i < k → a.getD i .empty = b.getD i .empty
  | 0, _, i, hi => absurd hi (Nat.not_lt_zero _)
  | k + 1, h, i, hi => by
    rw [diffN] at h
    obtain ⟨h1, h2⟩ := List.append_eq_nil_iff.1 h
    by_cases hk : i = k
    · subst hk
      by_cases e : a.getD i .empty = b.getD i .empty
      · exact e
      · rw [if_neg e] at h2; cases h2
    · exact diffN_nil h1 i (by omega)
theorem diffN_self (a : List ByteArray) : ∀ k, diffN a a k = []
  | 0 => rfl
  | k + 1 => by rw [diffN_same rfl, diffN_self a k]
theorem diffV_nil {a b : List ByteArray} (hl : a.length = b.length) : diffV a b = [] ↔ a = b :=
  ⟨fun h => getD_ext hl (diffN_nil h), fun h => by subst h; exact diffN_self _ _⟩
theorem diffN_mem {a b : List ByteArray} : ∀ {k : Nat} {p : Int × ByteArray}, p ∈ diffN a b k ↔ ∃ i, i < k ∧ p = ((i : Int), a.getD i .empty) ∧ a.getD i .empty ≠ b.getD i .empty
  | 0, p => by simp [diffN]
  | k + 1, p => by
    rw [diffN, List.mem_append, diffN_mem]
    constructor
    · rintro (⟨i, hi, e, hn⟩ | h)
      · exact ⟨i, by omega, e, hn⟩
      · split at h
        · cases h
        · rename_i hn
          exact ⟨k, by omega, List.mem_singleton.1 h, hn⟩
    · rintro ⟨i, hi, e, hn⟩
      by_cases hk : i = k
      · subst hk; exact .inr (by rw [if_neg hn, e]; exact List.mem_singleton.2 rfl)
      · exact .inl ⟨i, by omega, e, hn⟩

/-- a layout is valid at a place -/
def okAt (ps : List (Int × ByteArray)) (n : Int) (i : Nat) : Bool :=
  decide (0 ≤ (ps.getD i (0, .empty)).1) && decide ((ps.getD i (0, .empty)).1 - 1 ≤ n) && (decide (i = 0) || decide ((ps.getD (i - 1) (0, .empty)).1 < (ps.getD i (0, .empty)).1))
def validV (ps : List (Int × ByteArray)) (n : Int) : Bool := (List.range ps.length).all (okAt ps n)
theorem validV_iff {ps : List (Int × ByteArray)} {n : Int} : validV ps n = true ↔ ∀ i, i < ps.length → 0 ≤ (ps.getD i (0, .empty)).1 ∧ (ps.getD i (0, .empty)).1 - 1 ≤ n ∧ (i ≠ 0 → (ps.getD (i - 1) (0, .empty)).1 < (ps.getD i (0, .empty)).1) := by
  unfold validV
  rw [List.all_eq_true]
  constructor
  · intro h i hi
    have := h i (List.mem_range.2 hi)
    unfold okAt at this
    simp only [Bool.and_eq_true, Bool.or_eq_true, decide_eq_true_eq] at this
    exact ⟨this.1.1, this.1.2, fun h0 => this.2.resolve_left h0⟩
  · intro h i hi
    obtain ⟨h1, h2, h3⟩ := h i (List.mem_range.1 hi)
    unfold okAt
    simp only [Bool.and_eq_true, Bool.or_eq_true, decide_eq_true_eq]
    exact ⟨⟨h1, h2⟩, by by_cases h0 : i = 0; exact .inl h0; exact .inr (h3 h0)⟩
theorem validV_no {ps : List (Int × ByteArray)} {n : Int} {i : Nat} (hi : i < ps.length) (h : okAt ps n i = false) : validV ps n = false := by
  unfold validV
  rw [← Bool.not_eq_true, List.all_eq_true]
  intro h1
  have := h1 i (List.mem_range.2 hi)
  rw [h] at this
  cases this
/-- one piece put in -/
def putV (l : List ByteArray) (p : Int × ByteArray) : List ByteArray := l.set p.1.toNat p.2
def applyV (l : List ByteArray) (ps : List (Int × ByteArray)) : List ByteArray := ps.foldl putV l
theorem applyV_len (ps : List (Int × ByteArray)) : ∀ l : List ByteArray, (applyV l ps).length = l.length := by
  induction ps with
  | nil => intro l; rfl
  | cons p ps ih => intro l; show (applyV (putV l p) ps).length = _; rw [ih]; simp [putV]
theorem applyV_take_succ (l : List ByteArray) (ps : List (Int × ByteArray)) (k : Nat) (h : k < ps.length) : applyV l (ps.take (k + 1)) = putV (applyV l (ps.take k)) (ps.getD k (0, .empty)) :=
  foldl_take_succ putV ps l k h (0, .empty)
/-- a document of at least two pieces -/
theorem allV_of {l : List ByteArray} (h : 2 ≤ l.length) : ∃ a xs t, l = allV a xs t ∧ xs.length + 2 = l.length := by
  cases l with
  | nil => simp at h
  | cons a l =>
    have hne : l ≠ [] := fun e => by subst e; simp at h
    refine ⟨a, l.dropLast, l.getLast hne, ?_, ?_⟩
    · unfold allV; rw [List.dropLast_concat_getLast hne]
    · simp at h ⊢; omega
theorem allV_set_0 (a : ByteArray) (xs : List ByteArray) (t s : ByteArray) : (allV a xs t).set 0 s = allV s xs t := rfl
theorem allV_set_mid (a : ByteArray) (xs : List ByteArray) (t s : ByteArray) {i : Nat} (hi : i < xs.length) : (allV a xs t).set (i + 1) s = allV a (xs.set i s) t := by
  simp [allV, hi]
theorem allV_set_last (a : ByteArray) (xs : List ByteArray) (t s : ByteArray) : (allV a xs t).set (xs.length + 1) s = allV a xs s := by
  simp [allV]
end Go.Proofs.YtkkggpahanddnaaGreatDoor
/- A region that draws its order: first reads and calls that make memory at most, then a chain of any operations: one walk, in the order of the text. -/
namespace Go.Proofs.YtkkggpahanddnaaGreatDoor
open Go.RowKit

section
variable {P : Program} {ops : Array Oper} {md : Region.Mode} {C : World → Prop}

def wpAnyLQ (P : Program) (md : Region.Mode) (ops : Array Oper) (C : World → Prop) (n : Nat) (L : Array Bool → Act → Prop) : Nat → Array Bool → Act → Prop
  | 0, listed, a => L listed a
  | f + 1, listed, a =>
    Region.ready md ops listed ≠ [] ∧ ∀ i ∈ Region.ready md ops listed, i < n ∧ qOp P ops C i (wpAnyLQ P md ops C n L f (listed.setIfInBounds i true)) a

theorem wpAny_of_headQ {n g : Nat} {L : Array Bool → Act → Prop} {Q' : Exit → Act → World → Prop} (hL : ∀ listed a w, C w → L listed a → wpAny P md ops Q' g listed a w) :
    ∀ (f : Nat) (listed : Array Bool) (a : Act) (w : World), C w → wpAnyLQ P md ops C n L f listed a → wpAny P md ops Q' (f + g) listed a w
  | 0, listed, a, w, hC, h => by rw [Nat.zero_add]; exact hL _ _ _ hC h
  | f + 1, listed, a, w, hC, h => by
    rw [show f + 1 + g = (f + g) + 1 by omega]
    exact ⟨fun h0 => absurd h0 h.1, fun i hi => wpOp_of_qOp hC (fun a' w' hC' h' => wpAny_of_headQ hL f _ a' w' hC' h') (h.2 i hi).2⟩

theorem wpAnyLQ_first {n i : Nat} {oi : Oper} {v : Value} {L : Array Bool → Act → Prop} (hi : ops[i]? = some oi) (hsel : ∀ (j : Nat) (o : Oper) cs b, ops[j]? = some o → o.op ≠ .select cs b)
    (hs : Region.sinkB md ops n = true) (hc : Region.chainB md ops n = true) (hn : n < ops.size) (hin : i < n)
    (hdone : ∀ listed a, L listed a → ∀ j ∈ Region.ready md ops listed, n ≤ j) :
    ∀ (f : Nat) (listed : Array Bool) (a : Act), HeadInv md ops n listed →
      (∀ j oj, ops[j]? = some oj → j ≠ i → listed.getD j true = false → (∀ e ∈ oj.after, Region.binds md e = true → e.on ≠ i) → oi.apart ops oj = true) →
      i ∈ Region.ready md ops listed → YieldsIn P ops C oi v a →
      wpAnyLQ P md ops C n L f (listed.setIfInBounds i true) (a.put oi.dst v) → wpAnyLQ P md ops C n L (f + 1) listed a := by
  intro f
  induction f with
  | zero =>
    intro listed a inv _ hr hy H
    have hun := (mem_ready.1 hr).1
    refine ⟨fun h => (by rw [h] at hr; cases hr), fun j hj => ?_⟩
    have hjn : j < n := by
      rcases Nat.lt_or_ge j n with h | h
      · exact h
      · exact absurd hj (tail_waits hs hc hn inv _ i rfl hin hun j h)
    refine ⟨hjn, ?_⟩
    by_cases hji : j = i
    · subst hji; exact hy.qOp hi H
    · have := hdone _ _ H j (ready_mono hj hji)
      omega
  | succ f ih =>
    intro listed a inv hfree hr hy H
    have hun := (mem_ready.1 hr).1
    refine ⟨fun h => (by rw [h] at hr; cases hr), fun j hj => ?_⟩
    have hjn : j < n := by
      rcases Nat.lt_or_ge j n with h | h
      · exact h
      · exact absurd hj (tail_waits hs hc hn inv _ i rfl hin hun j h)
    refine ⟨hjn, ?_⟩
    by_cases hji : j = i
    · subst hji; exact hy.qOp hi H
    · have h1 := (H.2 j (ready_mono hj hji)).2
      obtain ⟨hjun, oj, hoj, hall⟩ := mem_ready.1 hj
      have hnot : ∀ e ∈ oj.after, Region.binds md e = true → e.on ≠ i := fun e he hb heq => by
        have h1 := hall e he hb
        rw [heq, getD_both hun] at h1
        cases h1
      have h2 := qOp_put hoj (hfree j oj hoj hji hjun hnot) (fun cs b => hsel i oi cs b hi) (fun cs b => hsel j oj cs b hoj) hy h1
      have hfree' : ∀ k ok, ops[k]? = some ok → k ≠ i → (listed.setIfInBounds j true).getD k true = false →
          (∀ e ∈ ok.after, Region.binds md e = true → e.on ≠ i) → oi.apart ops ok = true := fun k ok hk hki hun hno => by
        refine hfree k ok hk hki ?_ hno
        by_cases hjk : j = k
        · subst hjk; exact hjun
        · rw [getD_set_ne true hjk] at hun; exact hun
      refine qOp_mono (fun a' h3 => ih (listed.setIfInBounds j true) a' (inv.set hj hjn) hfree' (ready_mono hr (Ne.symm hji)) h3.1 ?_) h2
      rw [Array.setIfInBounds_comm _ _ hji]
      exact h3.2

theorem seqB_readyQ {g k : Nat} {listed : Array Bool} (h : Region.seqB md ops g k listed = true) : ∀ j ∈ Region.ready md ops listed, k ≤ j := seqB_ready h

theorem wpAnyLQ_lex {n g : Nat} {Lq : Act → Prop} (hsel : Region.noSelect ops = true) (hs : Region.sinkB md ops n = true) (hc : Region.chainB md ops n = true) (hn : n < ops.size) :
    ∀ (l : List Oper) (k : Nat) (listed : Array Bool) (a : Act), (∀ j, j < l.length → l[j]? = ops[k + j]?) → k + l.length = n → HeadInv md ops n listed →
    Region.lexHead md ops g l.length k listed = true → wpQuiet P ops C Lq l a →
    wpAnyLQ P md ops C n (fun listed' a' => Region.seqB md ops g n listed' = true ∧ Lq a') l.length listed a
  | [], k, listed, a, _, hk, _, hB, h => by
    have : k = n := by simpa using hk
    subst this
    exact ⟨by simpa [Region.lexHead] using hB, h⟩
  | o :: l, k, listed, a, hl, hk, inv, hB, h => by
    have h0 : ops[k]? = some o := by simpa using (hl 0 (by simp)).symm
    simp only [List.length_cons, Region.lexHead, Bool.and_eq_true] at hB
    obtain ⟨⟨hr, hf⟩, hB'⟩ := hB
    have hkn : k < n := by simp only [List.length_cons] at hk; omega
    have hr' : k ∈ Region.ready md ops listed := by simpa using hr
    have hst : qOp P ops C k (wpQuiet P ops C Lq l) a := by unfold qOp; simp only [h0]; exact h
    obtain ⟨v, hy, hK⟩ := yieldsIn_of_qOp h0 hst
    exact wpAnyLQ_first h0 (Region.noSelect_spec hsel) hs hc hn hkn (fun listed' a' hL => seqB_ready hL.1) l.length listed a inv (Region.free_spec h0 hf) hr' hy
      (wpAnyLQ_lex hsel hs hc hn l (k + 1) _ _ (fun j hj => by have := hl (j + 1) (by simp; omega); simpa [Nat.add_assoc, Nat.add_comm 1 j] using this) (by simp only [List.length_cons] at hk; omega) (inv.set hr' hkn) hB' hK)

theorem wp_region_quiet_tail {id : Nat} {Q : Exit → Act → World → Prop} {a : Act} {w : World} {l : List Oper} (n : Nat) (hm : P.follows .mixedOrders = true) (hB : Region.lexTailB .any l.toArray n = true) (hC : C { w with drawn := w.drawn + 1 })
    (h : wpQuiet P l.toArray C (fun a' => ∀ w', C w' → wpList P l.toArray Q (l.drop n) a' w') (l.take n) a) : (Code.region id l.toArray true).wp P Q a w := by
  simp only [Region.lexTailB, Bool.and_eq_true, decide_eq_true_eq] at hB
  obtain ⟨⟨⟨⟨hsel, hn⟩, hs⟩, hc⟩, hlex⟩ := hB
  have hn' : n < l.length := by simpa using hn
  have htl : (l.take n).length = n := by simp; omega
  have hdl : (l.drop n).length = l.toArray.size - n := by simp
  have inv0 : HeadInv .any l.toArray n (Array.replicate l.toArray.size false) :=
    ⟨by simp, fun j oj _ hl => (by rw [getD_replicate_false] at hl; cases hl), fun t _ ht => getD_in (by simpa using ht) (getD_replicate_false _ _)⟩
  have H := wpAnyLQ_lex (C := C) (md := .any) (g := l.toArray.size - n) hsel hs hc hn (l.take n) 0 _ a (fun j hj => by
    have hj' : j < n := by rw [htl] at hj; exact hj
    simp [hj']) (by simpa using htl) inv0 (by rw [htl]; exact hlex) h
  refine wp_region_any hm ?_
  have := wpAny_of_headQ (Q' := Q) (g := l.toArray.size - n) (fun listed a' w' hCw hL => by
    have := wpAny_of_seq (md := .any) (Q' := Q) (l.drop n) n listed a' w' (fun j => by simp [List.getElem?_drop]) (by rw [hdl]; exact hL.1) (hL.2 w' hCw)
    rwa [hdl] at this) _ _ _ _ hC H
  rw [htl, show n + (l.toArray.size - n) = l.toArray.size by omega] at this
  exact this

/-- the same, where the calls make memory at most -/
theorem wp_region_ext_tail {id : Nat} {Q : Exit → Act → World → Prop} {a : Act} {w : World} {l : List Oper} (n : Nat) (hm : P.follows .mixedOrders = true) (hB : Region.lexTailB .any l.toArray n = true)
    (h : wpQuiet P l.toArray (fun w' => ∃ e : Ext w, w' = e.1) (fun a' => ∀ w', (∃ e : Ext w, w' = e.1) → wpList P l.toArray Q (l.drop n) a' w') (l.take n) a) : (Code.region id l.toArray true).wp P Q a w :=
  wp_region_quiet_tail (C := fun w' => ∃ e : Ext w, w' = e.1) n hm hB ⟨⟨_, (Below.refl _ w).drew⟩, rfl⟩ h
end
end Go.Proofs.YtkkggpahanddnaaGreatDoor
/- Slices of strings in regions that draw their order: one slice behind a row of the call's own. -/
namespace Go.Proofs.YtkkggpahanddnaaGreatDoor
open Go.RowKit
theorem wp_at_worldH {P : Program} {c : Code} {Q : Exit → Act → World → Prop} {a : Act} {w : World} (h : ∀ W, W = w → c.wp P Q a W) : c.wp P Q a w := h w rfl
theorem infoS : (Tryz.prog.info? 9).map (fun i => (i.zero, i.size, i.bytes)) = some (some (.string .empty), 1, 16) := by kernel_rfl
theorem cellsS : Tryz.prog.cellsOf 9 = 1 := by kernel_rfl
theorem bytesS : Tryz.prog.bytesOf 9 = 16 := by kernel_rfl
theorem strs_app (l m : List ByteArray) : strs (l ++ m) = strs l ++ strs m := by simp [strs]
theorem strs_one (l : List ByteArray) : ∀ u ∈ strs l, u.oneCell' = true := by
  intro u hu
  obtain ⟨s, _, rfl⟩ := List.mem_map.1 hu
  rfl
theorem add_flat (b off j : Nat) : (⟨b, off, none⟩ : Addr).add j = ⟨b, off + j, none⟩ := by
  unfold Addr.add
  split
  · rename_i h; subst h; rfl
  · rfl
/-- a row of the call's own behind which another slice is laid -/
theorem run_app_strs {w : World} (ty : TypeId) (base : Nat) (ad : Option Addr) (k c : Nat) (ys : List Value) (hown : w.ownsRow base 9 1 (.slice ad k c) k ys) (ad2 : Option Addr) (n c2 : Nat) (xs : List ByteArray)
    (hx : Sl w ad2 n (strs xs)) (hc : ad2 = none → c2 = 0) (hr : (k + n) * 16 ≤ 140737488355328) (hb : base ≤ w.heap.size) :
    ∃ ad' c' w', (Builtin.append_ #[38, 38] ty #[.slice ad k c, .slice ad2 n c2]).run Tryz.prog w = .ok (.slice ad' (k + n) c') w' ∧
      w'.ownsRow base 9 1 (.slice ad' (k + n) c') (k + n) (ys ++ strs xs) ∧ w.grownBy w' (Value.ownBlock (.slice ad k c)) ∧ (ad' = none → ad = none) := by
  obtain ⟨i0, hi, hz0, hz1, hz2⟩ := info_parts infoS
  obtain ⟨b, off, hs⟩ := hx
  have hl : xs.length = n := by have := hs.len; rw [strs_length] at this; exact this
  cases ad2 with
  | none =>
    have h0 : n = 0 := by
      rcases Nat.eq_zero_or_pos n with h | h
      · exact h
      · have := hs.adr (by omega); cases this
    obtain rfl := hc rfl
    subst h0
    have hxs : xs = [] := List.eq_nil_of_length_eq_zero hl
    subst hxs
    refine ⟨ad, c, w, run_append_owned_none w base 38 ty 9 i0 1 Tryz.underlying38 hi (.slice ad k c) k ys hown, by simpa [strs] using hown, World.grownBy.refl _ _, fun h => h⟩
  | some A2 =>
    have news : ∀ j u, (strs xs)[j]? = some u → w.cell? (A2.add j) = some u := by
      intro j u hu
      have hj : j < (strs xs).length := (List.getElem?_eq_some_iff.1 hu).1
      rw [strs_length, hl] at hj
      have ha : A2 = ⟨b, off, none⟩ := by have := hs.adr (by omega); injection this
      rw [ha, add_flat, hs.cell j hj, List.getD, hu]; rfl
    obtain ⟨v', w', h1, h2, h3, h4⟩ := run_append_own (P := Tryz.prog) (w := w) base 38 ty 9 i0 (.string .empty) 1 16 Tryz.underlying38 hi hz0 hz1 hz2 rfl (by omega) (.slice ad k c) k ys hown A2 n c2 (strs xs)
      (by rw [strs_length, hl]; omega) news (strs_one xs) (by unfold maxLen; omega) hr hb
    obtain ⟨ad', c', rfl⟩ := own_form h2
    refine ⟨ad', c', w', h1, h2, h3, fun h => ?_⟩
    subst h
    rcases h2.2 with ⟨e, _⟩ | ⟨g, cap, cur, e, _⟩
    · exact (Value.slice.inj (h4.1 e).1).1
    · cases (Value.slice.inj e).1
/-- at an operation -/
theorem wp_app_strs {o : Oper} {a : Act} {w : World} {K : Act → World → Prop} {Q : Exit → Act → World → Prop} (s x : Operand)
    (ho : o.op = .call { callee := .builtin .append, args := #[s, x], argTypes := #[38, 38] })
    (base : Nat) (ad : Option Addr) (k c : Nat) (ys : List Value) (hs : a.eval s = .slice ad k c) (hown : w.ownsRow base 9 1 (.slice ad k c) k ys) (ad2 : Option Addr) (n c2 : Nat) (xs : List ByteArray)
    (hxe : a.eval x = .slice ad2 n c2) (hx : Sl w ad2 n (strs xs)) (hc : ad2 = none → c2 = 0) (hr : (k + n) * 16 ≤ 140737488355328) (hb : base ≤ w.heap.size)
    (h : ∀ ad' c' w', w'.ownsRow base 9 1 (.slice ad' (k + n) c') (k + n) (ys ++ strs xs) → w.grownBy w' (Value.ownBlock (.slice ad k c)) → (ad' = none → ad = none) → K (a.put o.dst (.slice ad' (k + n) c')) w') : o.wp Tryz.prog a w K Q := by
  obtain ⟨ad', c', w', h1, h2, h3, h4⟩ := run_app_strs o.type base ad k c ys hown ad2 n c2 xs hx hc hr hb
  unfold Oper.wp execOp
  simp only [ho, resolve, invoke, builtin, Sem.run_bind, Sem.run_pure, Result.andThen_ok, List.map_toArray, List.map_cons, List.map_nil, hs, hxe, h1]
  exact h ad' c' w' h2 h3 h4
/-- at a step of a region that draws its order -/
theorem step_app_strs {ops : Array Oper} {o : Oper} {a : Act} {w : World} {K : Act → World → Prop} {Q : Exit → Act → World → Prop} {E : Prop} (hgd : o.guard = none) (s x : Operand)
    (ho : o.op = .call { callee := .builtin .append, args := #[s, x], argTypes := #[38, 38] })
    (base : Nat) (ad : Option Addr) (k c : Nat) (ys : List Value) (hs : a.eval s = .slice ad k c) (hown : w.ownsRow base 9 1 (.slice ad k c) k ys) (ad2 : Option Addr) (n c2 : Nat) (xs : List ByteArray)
    (hxe : a.eval x = .slice ad2 n c2) (hx : Sl w ad2 n (strs xs)) (hc : ad2 = none → c2 = 0) (hr : (k + n) * 16 ≤ 140737488355328) (hb : base ≤ w.heap.size)
    (h : ∀ ad' c' w', w'.ownsRow base 9 1 (.slice ad' (k + n) c') (k + n) (ys ++ strs xs) → w.grownBy w' (Value.ownBlock (.slice ad k c)) → (ad' = none → ad = none) → K (a.put o.dst (.slice ad' (k + n) c')) w') :
    if Region.wanted o (yielded ops a.tmps) = true then Oper.wp Tryz.prog o a w K Q else E := by
  have hw : Region.wanted o (yielded ops a.tmps) = true := by simp [Region.wanted, hgd]
  rw [if_pos hw]
  exact wp_app_strs s x ho base ad k c ys hs hown ad2 n c2 xs hxe hx hc hr hb h
/-- in a list of operations -/
theorem wpList_app_strs {ops : Array Oper} {rest : List Oper} {o : Oper} {a : Act} {w : World} {Q : Exit → Act → World → Prop} (hgd : o.guard = none) (s x : Operand)
    (ho : o.op = .call { callee := .builtin .append, args := #[s, x], argTypes := #[38, 38] })
    (base : Nat) (ad : Option Addr) (k c : Nat) (ys : List Value) (hs : a.eval s = .slice ad k c) (hown : w.ownsRow base 9 1 (.slice ad k c) k ys) (ad2 : Option Addr) (n c2 : Nat) (xs : List ByteArray)
    (hxe : a.eval x = .slice ad2 n c2) (hx : Sl w ad2 n (strs xs)) (hc : ad2 = none → c2 = 0) (hr : (k + n) * 16 ≤ 140737488355328) (hb : base ≤ w.heap.size)
    (h : ∀ ad' c' w', w'.ownsRow base 9 1 (.slice ad' (k + n) c') (k + n) (ys ++ strs xs) → w.grownBy w' (Value.ownBlock (.slice ad k c)) → (ad' = none → ad = none) → wpList Tryz.prog ops Q rest (a.put o.dst (.slice ad' (k + n) c')) w') : wpList Tryz.prog ops Q (o :: rest) a w :=
  wpList_plain hgd fun _ hK => wp_app_strs s x ho base ad k c ys hs hown ad2 n c2 xs hxe hx hc hr hb fun ad' c' w' h2 h3 h4 => hK _ _ (h ad' c' w' h2 h3 h4)
/-- the cells of a block that is known whole -/
theorem row_cells {w : World} {B : Nat} {cs : Array Value} {t : TypeId} (hb : w.heap[B]? = some (.cells cs t (0, 0))) (j : Nat) : w.cell? ⟨B, j, none⟩ = cs[j]? := by
  simp [World.cell?, hb]
theorem row_frozen {w : World} {B : Nat} {cs : Array Value} {t : TypeId} (hb : w.heap[B]? = some (.cells cs t (0, 0))) (j : Nat) : w.frozen? ⟨B, j, none⟩ = false := by
  simp [World.frozen?, hb]
theorem row_new (w : World) (cs : Array Value) (t : TypeId) : (w.alloc (.cells cs t)).heap[w.heap.size]? = some (.cells cs t (0, 0)) := by show (w.heap.push _)[w.heap.size]? = _; simp
theorem row_new2 (w : World) (o : Obj) (cs : Array Value) (t : TypeId) : ((w.alloc o).alloc (.cells cs t)).heap[w.heap.size + 1]? = some (.cells cs t (0, 0)) := by
  have := row_new (w.alloc o) cs t
  rwa [World.size_alloc] at this
/-- .. behind a store -/
theorem row_set {w : World} {B : Nat} {cs : Array Value} {t : TypeId} (hb : w.heap[B]? = some (.cells cs t (0, 0))) (j : Nat) (v : Value) : (w.setCell ⟨B, j, none⟩ v).heap[B]? = some (.cells (cs.setIfInBounds j v) t (0, 0)) := by
  simp [World.setCell, Array.getElem?_modify, hb]
/-- a row of the call's own is another block than one of another type -/
theorem own_other {w : World} {base : Nat} {E T : TypeId} {size : Nat} {v : Value} {n : Nat} {xs : List Value} {b : Nat} {cs : Array Value} {fr : Nat × Nat} (hown : w.ownsRow base E size v n xs) (hb : w.heap[b]? = some (.cells cs T fr)) (hTe : T ≠ E) : v.ownBlock ≠ some b := by
  rcases hown.2 with ⟨rfl, _⟩ | ⟨g, cap, cur, rfl, _, hg, _⟩
  · simp [Value.ownBlock]
  · intro h
    simp only [Value.ownBlock, Option.some.injEq] at h
    subst h
    rw [hg] at hb
    simp only [Option.some.injEq, Obj.cells.injEq] at hb
    exact hTe hb.2.1.symm
theorem own_set {w : World} {base : Nat} {E T : TypeId} {size : Nat} {v : Value} {n : Nat} {xs : List Value} {b : Nat} {cs : Array Value} {fr : Nat × Nat} (hown : w.ownsRow base E size v n xs) (hb : w.heap[b]? = some (.cells cs T fr)) (hTe : T ≠ E) (j : Nat) (u : Value) : (w.setCell ⟨b, j, none⟩ u).ownsRow base E size v n xs :=
  hown.kept (row := some b) ⟨rfl, rfl, rfl, by simp [World.setCell], fun k _ hk => Below.heap_setCell _ _ _ _ (fun e => hk (by simp [e]))⟩ (Or.inr (own_other hown hb hTe))
/-- what lay ahead of a new row is as it was -/
theorem app_below {W w' : World} {o : Obj} {n c : Nat} (hg : ((W.alloc o).drew).grownBy w' (Value.ownBlock (.slice (some ⟨W.heap.size, 0, none⟩) n c))) : Below W.heap.size W w' :=
  (((Below.refl W.heap.size W).alloc (Nat.le_refl _) o).drew).grown hg (by simp) (fun k hk => by simp [Value.ownBlock] at hk; omega)
/-- an empty slice that was made just now -/
theorem own_empty (w : World) (E : TypeId) : (w.alloc (.cells #[] E)).ownsRow w.heap.size E 1 (.slice (some ⟨w.heap.size, 0, none⟩) 0 0) 0 [] :=
  ⟨rfl, .inr ⟨w.heap.size, 0, #[], rfl, Nat.le_refl _, by show (w.heap.push _)[w.heap.size]? = some _; simp, Nat.le_refl _, by unfold maxLen; omega, rfl, rfl⟩⟩
theorem own_one (w : World) (E : TypeId) (v : Value) : (w.alloc (.cells #[v] E)).ownsRow w.heap.size E 1 (.slice (some ⟨w.heap.size, 0, none⟩) 1 1) 1 [v] :=
  ⟨rfl, .inr ⟨w.heap.size, 1, #[v], rfl, Nat.le_refl _, by show (w.heap.push _)[w.heap.size]? = some _; simp, Nat.le_refl _, by unfold maxLen; omega, rfl, rfl⟩⟩
/-- .. of one element, behind a draw, and beside another block -/
theorem own_one_d (w : World) (E : TypeId) (v : Value) : ((w.alloc (.cells #[v] E)).drew).ownsRow w.heap.size E 1 (.slice (some ⟨w.heap.size, 0, none⟩) 1 1) 1 [v] := Own.below (own_one w E v) (below_drew1 _)
theorem own_one_a (w : World) (E : TypeId) (v : Value) (o : Obj) : (((w.alloc (.cells #[v] E)).alloc o).drew).ownsRow w.heap.size E 1 (.slice (some ⟨w.heap.size, 0, none⟩) 1 1) 1 [v] :=
  Own.below (own_one w E v) (((Below.refl _ _).alloc (Nat.le_refl _) _).drew)
theorem own_one_b (w : World) (E : TypeId) (v : Value) (o : Obj) : (((w.alloc o).alloc (.cells #[v] E)).drew).ownsRow w.heap.size E 1 (.slice (some ⟨w.heap.size + 1, 0, none⟩) 1 1) 1 [v] := by
  have := own_one_d (w.alloc o) E v
  rw [World.size_alloc] at this
  exact Own.rebase this (by omega)
theorem sl_one {w : World} {B : Nat} {E : TypeId} {s : ByteArray} (hb : w.heap[B]? = some (.cells #[.string s] E (0, 0))) : Sl w (some ⟨B, 0, none⟩) 1 (strs [s]) :=
  ⟨B, 0, ⟨rfl, by omega, fun _ => rfl, fun i hi => by
    obtain rfl : i = 0 := by omega
    rw [Nat.zero_add, row_cells hb]; rfl⟩⟩
/-- what an append to a new row leaves, where another block was laid beside -/
theorem app_below2 {W w' : World} {o o' : Obj} {k n c : Nat} (hk : W.heap.size ≤ k) (hg : (((W.alloc o).alloc o').drew).grownBy w' (Value.ownBlock (.slice (some ⟨k, 0, none⟩) n c))) : Below W.heap.size W w' :=
  ((((Below.refl W.heap.size W).alloc (Nat.le_refl _) o).alloc (by simp) o').drew).grown hg (by simp; omega) (fun q hq => by simp [Value.ownBlock] at hq; omega)
theorem app_side {W w' : World} {o o' : Obj} {n c : Nat} (hg : (((W.alloc o).alloc o').drew).grownBy w' (Value.ownBlock (.slice (some ⟨W.heap.size, 0, none⟩) n c))) : w'.heap[W.heap.size + 1]? = some o' := by
  rw [hg.block (W.heap.size + 1) (by simp) (by simp [Value.ownBlock])]
  have h1 : ((W.alloc o).alloc o').heap[(W.alloc o).heap.size]? = some o' := Array.getElem?_push_size
  rw [World.size_alloc] at h1
  exact h1
theorem app_side2 {W w' : World} {o o' : Obj} {n c : Nat} (hg : (((W.alloc o).alloc o').drew).grownBy w' (Value.ownBlock (.slice (some ⟨W.heap.size + 1, 0, none⟩) n c))) : w'.heap[W.heap.size]? = some o := by
  rw [hg.block W.heap.size (by simp; omega) (by simp [Value.ownBlock])]
  have h1 : (W.alloc o).heap[W.heap.size]? = some o := Array.getElem?_push_size
  exact (Below.heap_alloc (W.alloc o) o' W.heap.size (by simp)).trans h1
end Go.Proofs.YtkkggpahanddnaaGreatDoor
