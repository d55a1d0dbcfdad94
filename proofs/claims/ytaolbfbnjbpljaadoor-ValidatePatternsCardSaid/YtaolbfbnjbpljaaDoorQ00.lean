/- Plain lemmas on worlds, slices and contracts, over any program. -/
import Derived.Test.YtaolbfbnjbpljaaDoorRows
import Derived.WalkKit
import Derived.WalkSpells
import Derived.WalkLawsBesides
import Derived.Lib.Hide
import Derived.BigQuiet
import Derived.Deep.QuietTactic
import Derived.Lib.ConvBytes
import Derived.Lib.CountLaws
import Derived.Lib.Replace
namespace Go.Proofs.YtaolbfbnjbpljaaDoor
open Go.RowKit

/-- The slice value '.slice ad n c' reads in w as the cells xs, from block b, offset off on. -/
structure SlAt (w : World) (ad : Option Addr) (n : Nat) (xs : List Value) (b off : Nat) : Prop where
  len : xs.length = n
  max : n ≤ 9223372036854775807
  adr : n ≠ 0 → ad = some ⟨b, off, none⟩
  cell : ∀ i (_h : i < n), w.cell? ⟨b, off + i, none⟩ = some (xs.getD i undef)

/-- .. from some place on. -/
def Sl (w : World) (ad : Option Addr) (n : Nat) (xs : List Value) : Prop := ∃ b off, SlAt w ad n xs b off

theorem SlAt.ix {P : Program} {w : World} {ad : Option Addr} {n c : Nat} {xs : List Value} {b off k : Nat} (h : SlAt w ad n xs b off) (T E : TypeId)
    (hT : P.underlying T = some (.slice E)) (hE : P.cellsOf E = 1) (hk : k < n) (W : World) :
    (Instr.indexAt T (.slice ad n c) (.int .i64 (k : Int))).run P W = .ok (.pointer (some ⟨b, off + k, none⟩)) W := by
  rw [h.adr (by omega)]
  have hel : P.elem T = E := by simp [Program.elem, hT]
  rw [run_indexAt_slice W T _ n c .i64 k (by rw [hel]; exact hT), hel, if_pos (by omega)]
  have hs : (sizeOf E).run P W = .ok 1 W := by
    unfold Program.cellsOf at hE
    cases hi : P.info? E with
    | none => simp [hi] at hE
    | some i => simp [hi] at hE; simp [sizeOf, typeInfo, hi, hE]
  rw [hs]
  simp [Result.andThen, Addr.add]

theorem SlAt.block {w : World} {ad : Option Addr} {n : Nat} {xs : List Value} {b off : Nat} (h : SlAt w ad n xs b off) (hn : n ≠ 0) : b < w.heap.size := by
  have := h.cell 0 (by omega)
  exact World.block_lt_of_cell? w _ this

theorem SlAt.below {w w' : World} {ad : Option Addr} {n : Nat} {xs : List Value} {b off : Nat} (h : SlAt w ad n xs b off) (hb : Below w.heap.size w w') : SlAt w' ad n xs b off :=
  ⟨h.len, h.max, h.adr, fun i hi => by rw [hb.cell (p := ⟨b, off + i, none⟩) (h.block (by omega))]; exact h.cell i hi⟩


theorem getD_map_u8 (bs : List UInt8) (k : Nat) (h : k < bs.length) : (bs.map fun x => Value.int .u8 (x.toNat : Int)).getD k undef = .int .u8 ((bs.getD k 0).toNat : Int) := by
  simp [List.getD, List.getElem?_map, List.getElem?_eq_getElem h]

/-- the bytes of a slice -/
def u8s (bs : List UInt8) : List Value := bs.map fun x => .int .u8 (x.toNat : Int)
theorem u8s_getD (bs : List UInt8) (k : Nat) (h : k < bs.length) : (u8s bs).getD k undef = .int .u8 ((bs.getD k 0).toNat : Int) := getD_map_u8 bs k h
theorem u8s_length (bs : List UInt8) : (u8s bs).length = bs.length := by simp [u8s]

theorem foldl_take_succ {α β : Type} (f : α → β → α) (l : List β) (a : α) (k : Nat) (h : k < l.length) (d : β) :
    (l.take (k + 1)).foldl f a = f ((l.take k).foldl f a) (l.getD k d) := by
  rw [List.take_succ_eq_append_getElem h, List.foldl_append]
  simp [List.getD, List.getElem?_eq_getElem h]


/-- the numbers of a slice of int -/
def ints (zs : List Int) : List Value := zs.map (.int .i64)
theorem ints_length (zs : List Int) : (ints zs).length = zs.length := by simp [ints]
theorem ints_getD (zs : List Int) (k : Nat) (h : k < zs.length) : (ints zs).getD k undef = .int .i64 (zs.getD k 0) := by
  simp [ints, List.getD, List.getElem?_map, List.getElem?_eq_getElem h]
/-- the strings of a slice -/
def strs (ss : List ByteArray) : List Value := ss.map .string
theorem strs_length (ss : List ByteArray) : (strs ss).length = ss.length := by simp [strs]
theorem strs_getD (ss : List ByteArray) (k : Nat) (h : k < ss.length) : (strs ss).getD k undef = .string (ss.getD k .empty) := by
  simp [strs, List.getD, List.getElem?_map, List.getElem?_eq_getElem h]
theorem getD_mem {α : Type} (l : List α) (k : Nat) (d : α) (h : k < l.length) : l.getD k d ∈ l := by
  simp [List.getD, List.getElem?_eq_getElem h]

theorem any_take_succ {α : Type} (p : α → Bool) (l : List α) (k : Nat) (h : k < l.length) (d : α) : (l.take (k + 1)).any p = ((l.take k).any p || p (l.getD k d)) := by
  rw [List.take_succ_eq_append_getElem h, List.any_append]
  simp [List.getD, List.getElem?_eq_getElem h]
theorem any_of_getD {α : Type} (p : α → Bool) (l : List α) (k : Nat) (h : k < l.length) (d : α) (hp : p (l.getD k d) = true) : l.any p = true :=
  List.any_eq_true.2 ⟨_, getD_mem l k d h, hp⟩
theorem all_take_succ {α : Type} (p : α → Bool) (l : List α) (k : Nat) (h : k < l.length) (d : α) : (l.take (k + 1)).all p = ((l.take k).all p && p (l.getD k d)) := by
  rw [List.take_succ_eq_append_getElem h, List.all_append]
  simp [List.getD, List.getElem?_eq_getElem h]
theorem all_of_getD {α : Type} (p : α → Bool) (l : List α) (k : Nat) (h : k < l.length) (d : α) (hp : p (l.getD k d) = false) : l.all p = false := by
  rw [← Bool.not_eq_true, List.all_eq_true]
  intro ha
  have := ha _ (getD_mem l k d h)
  rw [hp] at this
  cases this

theorem ret_int {k : IntKind} {a b : Int} (h : a = b) : Ending.returned (.int k a) = .returned (.int k b) := by rw [h]
theorem ret_bool {a b : Bool} (h : a = b) : Ending.returned (.bool a) = .returned (.bool b) := by rw [h]

theorem Sl.below {w w' : World} {ad : Option Addr} {n : Nat} {xs : List Value} (h : Sl w ad n xs) (hb : Below w.heap.size w w') : Sl w' ad n xs := by
  obtain ⟨b, off, h⟩ := h
  exact ⟨b, off, h.below hb⟩

theorem Sl.alloc {w : World} {ad : Option Addr} {n : Nat} {xs : List Value} (h : Sl w ad n xs) (o : Obj) : Sl (w.alloc o) ad n xs := h.below ((Below.refl _ _).alloc (Nat.le_refl _) _)
theorem Sl.drewN {w : World} {ad : Option Addr} {n : Nat} {xs : List Value} (h : Sl w ad n xs) (k : Nat) : Sl (w.drewN k) ad n xs := h.below ⟨rfl, rfl, rfl, Nat.le_refl _, fun _ _ => rfl⟩
theorem Sl.len {w : World} {ad : Option Addr} {n : Nat} {xs : List Value} (h : Sl w ad n xs) : xs.length = n := by obtain ⟨b, off, h⟩ := h; exact h.len
theorem Sl.max {w : World} {ad : Option Addr} {n : Nat} {xs : List Value} (h : Sl w ad n xs) : n ≤ 9223372036854775807 := by obtain ⟨b, off, h⟩ := h; exact h.max

theorem bytes_below (w : World) (e : TypeId) (s : ByteArray) : Below w.heap.size w (Lib.bytesWorld w e s) :=
  ⟨rfl, rfl, rfl, by rw [Lib.bytesWorld_size]; omega, fun k hk => Lib.bytesWorld_at_old w e s k hk⟩

theorem ba_len (s : ByteArray) : s.data.toList.length = s.size := by rw [Array.length_toList]; rfl

theorem bytes_sl (w : World) (e : TypeId) (s : ByteArray) (hs : s.size ≤ 9223372036854775807) : Sl (Lib.bytesWorld w e s) (some ⟨w.heap.size, 0, none⟩) s.size (u8s s.data.toList) := by
  refine ⟨w.heap.size, 0, ⟨by rw [u8s_length, ba_len], hs, fun _ => rfl, fun i hi => ?_⟩⟩
  rw [u8s_getD _ _ (by rw [ba_len]; exact hi), Nat.zero_add]
  exact Lib.bytesWorld_cell w e s i hi

/-- A world that has grown from w: what was there is as it was. -/
def Ext (w : World) := { x : World // Below w.heap.size w x }
instance (w : World) : Nonempty (Ext w) := ⟨⟨w, Below.refl _ _⟩⟩
theorem Ext.cell {w : World} (e : Ext w) (a : Addr) (h : a.block < w.heap.size) : e.1.cell? a = w.cell? a := e.2.cell h
theorem Ext.frozen {w : World} (e : Ext w) (a : Addr) (h : a.block < w.heap.size) : e.1.frozen? a = w.frozen? a := e.2.frozen h
theorem Calls.ext {P : Program} {f : FuncId} {args : Array Value} {w : World} {e : Ext w} {v : Value}
    (h : Calls P f args e.1 fun e' w' => e' = .returned v ∧ Below e.1.heap.size e.1 w') : Calls P f args e.1 fun e' w'' => e' = .returned v ∧ ∃ e2 : Ext w, w'' = e2.1 :=
  h.mono fun _ w' ⟨he, hb⟩ => ⟨he, ⟨w', e.2.trans (hb.mono e.2.size)⟩, rfl⟩
theorem Calls.ext_same {P : Program} {f : FuncId} {args : Array Value} {w : World} {e : Ext w} {v : Value}
    (h : Calls P f args e.1 fun e' w' => e' = .returned v ∧ e.1 = w') : Calls P f args e.1 fun e' w'' => e' = .returned v ∧ ∃ e2 : Ext w, w'' = e2.1 :=
  h.mono fun _ _w' ⟨he, hb⟩ => ⟨he, e, hb.symm⟩
/-- A region that draws its order, whose operations read, and whose callees make memory at most: one walk, in the order of the text. -/
theorem wp_region_ext {P : Program} {id : Nat} {Q : Exit → Act → World → Prop} {a : Act} {w : World} {l : List Oper} (hm : P.follows .mixedOrders = true) (hB : Region.lexB .any l.toArray = true)
    (h : wpQuiet P l.toArray (fun w' => ∃ e : Ext w, w' = e.1) (fun a' => ∀ w', (∃ e : Ext w, w' = e.1) → Q .normal a' w') l a) : (Code.region id l.toArray true).wp P Q a w :=
  wp_region_quiet (C := fun w' => ∃ e : Ext w, w' = e.1) hm hB ⟨⟨_, (Below.refl _ w).drew⟩, rfl⟩ (by simpa using h)
theorem Sl.ext {w : World} {ad : Option Addr} {n : Nat} {xs : List Value} (h : Sl w ad n xs) (e : Ext w) : Sl e.1 ad n xs := h.below e.2
theorem box_below (w : World) (o : Obj) (k : Nat) : Below w.heap.size w ((w.alloc o).drewN k) :=
  ((Below.refl _ w).alloc (Nat.le_refl _) o).trans ⟨rfl, rfl, rfl, Nat.le_refl _, fun _ _ => rfl⟩
theorem ext_below (w : World) (o : Obj) (e : Ext (w.alloc o)) : Below w.heap.size w e.1 :=
  ((Below.refl _ w).alloc (Nat.le_refl _) o).trans (e.2.mono (by simp))

/-- the block of a slice's address -/
theorem own_form {w : World} {base : Nat} {E : TypeId} {v : Value} {n : Nat} {xs : List Value} (h : w.ownsRow base E 1 v n xs) : ∃ ad c, v = .slice ad n c := by
  obtain ⟨_, ⟨rfl, rfl⟩ | ⟨g, cap, cur, rfl, _⟩⟩ := h
  · exact ⟨_, _, rfl⟩
  · exact ⟨_, _, rfl⟩

theorem Own.sl {w : World} {base : Nat} {E : TypeId} {ad : Option Addr} {n c : Nat} {xs : List Value} (h : w.ownsRow base E 1 (.slice ad n c) n xs) : Sl w ad n xs := by
  have hl : xs.length = n := by have := h.1; omega
  obtain ⟨_, ⟨h1, h2⟩ | ⟨g, cap, cur, h1, h2, h3, h4, h5, h6, h7⟩⟩ := h
  · subst h2
    exact ⟨0, 0, hl, by omega, fun h => absurd rfl h, fun i hi => absurd hi (Nat.not_lt_zero _)⟩
  · injection h1 with e1 e2 e3
    subst e1
    refine ⟨g, 0, hl, by unfold maxLen at h5; omega, fun _ => rfl, fun i hi => ?_⟩
    have hi' : i < cur.size := by omega
    have hx : xs.getD i undef = cur[i] := by
      rw [← h7]
      simp only [List.getD, Nat.mul_one]
      rw [List.getElem?_take, if_pos hi]
      simp [hi']
    rw [hx]
    simp [World.cell?, h3, hi']

theorem Own.lt {w : World} {base : Nat} {E : TypeId} {ad : Option Addr} {n c : Nat} {xs : List Value} (h : w.ownsRow base E 1 (.slice ad n c) n xs) :
    ∀ k, Value.ownBlock (.slice ad n c) = some k → base ≤ k ∧ k < w.heap.size := World.ownsRow.lt h

theorem Own.below {w w' : World} {base : Nat} {E : TypeId} {v : Value} {n : Nat} {xs : List Value} (h : w.ownsRow base E 1 v n xs) (hb : Below w.heap.size w w') : w'.ownsRow base E 1 v n xs := by
  refine ⟨h.1, ?_⟩
  rcases h.2 with h2 | ⟨g, cap, cur, h1, h2, h3, h4, h5, h6, h7⟩
  · exact .inl h2
  · have hg : g < w.heap.size := by
      rcases Nat.lt_or_ge g w.heap.size with h' | h'
      · exact h'
      · simp [Array.getElem?_eq_none h'] at h3
    exact .inr ⟨g, cap, cur, h1, h2, (hb.block g hg).trans h3, h4, h5, h6, h7⟩

theorem Own.rebase {w : World} {base base' : Nat} {E : TypeId} {v : Value} {n : Nat} {xs : List Value} (h : w.ownsRow base E 1 v n xs) (hb : base' ≤ base) : w.ownsRow base' E 1 v n xs := by
  refine ⟨h.1, ?_⟩
  rcases h.2 with h2 | ⟨g, cap, cur, h1, h2, h3⟩
  · exact .inl h2
  · exact .inr ⟨g, cap, cur, h1, by omega, h3⟩

/-- append of one element to a slice of the call's own -/
theorem wpList_app {P : Program} {ops : Array Oper} {rest : List Oper} {o : Oper} {a : Act} {Q : Exit → Act → World → Prop} {w : World} (t E : TypeId) (bytes : Nat)
    (ht : P.underlying t = some (.slice E)) (i : TypeInfo) (z : Value) (hi : P.info? E = some i) (hz : i.zero = some z) (hsize : i.size = 1) (hby : i.bytes = bytes) (hzs : z.cells.size = 1)
    (hgd : o.guard = none) (s x : Operand) (ho : o.op = .call { callee := .builtin .append, args := #[s, x], argTypes := #[t, t] })
    (base : Nat) (ad : Option Addr) (n c : Nat) (xs : List Value) (hs : a.eval s = .slice ad n c) (hown : w.ownsRow base E 1 (.slice ad n c) n xs)
    (y : Value) (E' : TypeId) (hx : a.eval x = .slice (some ⟨w.heap.size, 0, none⟩) 1 1) (hy : y.oneCell' = true)
    (h63 : n + 1 ≤ maxLen) (hbytes : (n + 1) * bytes ≤ 140737488355328) (hbase : base ≤ w.heap.size)
    (h : ∀ ad' c' w', w'.ownsRow base E 1 (.slice ad' (n + 1) c') (n + 1) (xs ++ [y]) → Below base w w' → w.grownBy w' (Value.ownBlock (.slice ad n c)) → w.heap.size < w'.heap.size →
      wpList P ops Q rest (a.put o.dst (.slice ad' (n + 1) c')) w') : wpList P ops Q (o :: rest) a (w.alloc (.cells #[y] E')) := by
  refine wpList_append_own _ hgd s x t ho base E i z 1 bytes ht hi hz hsize hby hzs (by omega) (.slice ad n c) n xs hs (World.ownsRow.alloc hown _) ⟨w.heap.size, 0, none⟩ 1 1 [y] hx rfl (cell_one_new _ _ _)
    (by simpa using hy) h63 hbytes (by simp; omega) ?_
  intro v' w' h1 h2 _
  obtain ⟨ad', c', rfl⟩ := own_form h1
  have hlt := Own.lt hown
  refine h ad' c' w' h1 ?_ ?_ (by have := h2.size; simp at this; omega)
  · exact ((Below.refl base w).alloc hbase _).grown h2 (by simp; omega) (fun k hk => (hlt k hk).1)
  · exact ⟨h2.os, h2.tape, h2.output, by have := h2.size; simp at this; omega, fun k hk hne => (h2.block k (by simp; omega) hne).trans (Below.heap_alloc _ _ _ hk)⟩

theorem u64_wrap_bd (x : Int) : 0 ≤ IntKind.u64.wrap x ∧ IntKind.u64.wrap x ≤ 18446744073709551615 := by
  rw [IntKind.wrap_u64]; omega


theorem Calls.toExt {P : Program} {f : FuncId} {args : Array Value} {w : World} {v : Value}
    (h : Calls P f args w fun e w' => e = .returned v ∧ Below w.heap.size w w') : Calls P f args w fun e w' => e = .returned v ∧ ∃ x : Ext w, w' = x.1 :=
  h.mono fun _ w' ⟨he, hb⟩ => ⟨he, ⟨w', hb⟩, rfl⟩
/-- nothing that was there has changed -/
def Bel (w X : World) : Prop := Below w.heap.size w X
theorem Bel.refl (w : World) : Bel w w := Below.refl _ _
theorem Bel.alloc {w X : World} (h : Bel w X) (o : Obj) : Bel w (X.alloc o) := Below.alloc h h.size _
theorem Bel.ext {w X : World} (h : Bel w X) (x : Ext X) : Bel w x.1 := Below.trans h (x.2.mono h.size)
theorem Bel.drewN {w X : World} (h : Bel w X) (n : Nat) : Bel w (X.drewN n) := Below.trans h ⟨rfl, rfl, rfl, Nat.le_refl _, fun _ _ => rfl⟩
theorem Bel.drew {w X : World} (h : Bel w X) : Bel w X.drew := Below.drew h
theorem Bel.setCell {w X : World} (h : Bel w X) (p : Addr) (v : Value) (hp : w.heap.size ≤ p.block) : Bel w (X.setCell p v) := Below.setCell h (p := p) hp v
theorem Bel.set3 {w X : World} (h : Bel w X) (a b c : Value) : Bel w (((X.setCell ⟨w.heap.size, 0, none⟩ a).setCell ⟨w.heap.size, 1, none⟩ b).setCell ⟨w.heap.size, 2, none⟩ c) :=
  ((h.setCell _ _ (Nat.le_refl _)).setCell _ _ (Nat.le_refl _)).setCell _ _ (Nat.le_refl _)
theorem Bel.out {w X : World} (h : Bel w X) : Below w.heap.size w X := h
theorem below_drew1 (w : World) : Below w.heap.size w w.drew := (Below.refl _ w).drew
end Go.Proofs.YtaolbfbnjbpljaaDoor
/- Plain: a text has each placeholder once and no other braces: by replacing one after the other, and by reading it once. -/
namespace Go.Proofs.YtaolbfbnjbpljaaDoor
open Go.RowKit
def plL (i : Nat) : List UInt8 := [123, UInt8.ofNat (48 + i), 125]
def BraceB (c : UInt8) : Prop := c = 123 ∨ c = 125
instance (c : UInt8) : Decidable (BraceB c) := inferInstanceAs (Decidable (_ ∨ _))
/-- the placeholders of a text in their order; none: another brace -/
def scanA (A : Nat → Bool) : List UInt8 → Option (List Nat)
  | [] => some []
  | [c] => if BraceB c then none else some []
  | [c, d] => if BraceB c then none else scanA A [d]
  | c :: d :: e :: r => if c = 123 then (if e = 125 ∧ 48 ≤ d.toNat ∧ A (d.toNat - 48) = true then (scanA A r).map ((d.toNat - 48) :: ·) else none) else if c = 125 then none else scanA A (d :: e :: r)
theorem scan_skip {A : Nat → Bool} {c : UInt8} (h : ¬ BraceB c) (r : List UInt8) : scanA A (c :: r) = scanA A r := by
  match r with
  | [] => show (if BraceB c then none else some []) = some []; rw [if_neg h]
  | [d] => show (if BraceB c then none else scanA A [d]) = scanA A [d]; rw [if_neg h]
  | d :: e :: r => rw [scanA, if_neg (fun e => h (.inl e)), if_neg (fun e => h (.inr e))]
theorem scan_close {A : Nat → Bool} (r : List UInt8) : scanA A (125 :: r) = none := by
  match r with
  | [] => rfl
  | [d] => rfl
  | d :: e :: r => rw [scanA, if_neg (by decide), if_pos rfl]
theorem scan_open {A : Nat → Bool} (d e : UInt8) (r : List UInt8) : scanA A (123 :: d :: e :: r) = if e = 125 ∧ 48 ≤ d.toNat ∧ A (d.toNat - 48) = true then (scanA A r).map ((d.toNat - 48) :: ·) else none := by
  rw [scanA, if_pos rfl]
theorem scan_short {A : Nat → Bool} (r : List UInt8) (h : r.length < 2) : scanA A (123 :: r) = none := by
  match r, h with
  | [], _ => rfl
  | [d], _ => rfl
theorem scan_mem {A : Nat → Bool} : ∀ (m : Nat) (s : List UInt8) (L : List Nat), s.length ≤ m → scanA A s = some L → ∀ j ∈ L, A j = true
  | m, [], L, _, h => by
    injection h with h
    subst h
    intro j hj; cases hj
  | 0, c :: r, L, hm, _ => by simp at hm
  | m + 1, c :: r, L, hm, h => by
    simp at hm
    by_cases hb : BraceB c
    · rcases hb with rfl | rfl
      · match r, hm, h with
        | [], _, h => cases h
        | [d], _, h => cases h
        | d :: e :: r, hm, h =>
          rw [scan_open] at h
          split at h
          · rename_i hc
            obtain ⟨L2, h2, rfl⟩ := Option.map_eq_some_iff.1 h
            intro j hj
            rcases List.mem_cons.1 hj with rfl | hj
            · exact hc.2.2
            · exact scan_mem m r L2 (by simp at hm; omega) h2 j hj
          · cases h
      · rw [scan_close] at h; cases h
    · rw [scan_skip hb] at h
      exact scan_mem m r L hm h
/-- reading goes on behind a part that ends ahead of a brace that opens, or of a nought -/
theorem scan_app {A : Nat → Bool} (hA : ∀ i, A i = true → i < 10) {c : UInt8} (hc : c = 123 ∨ c = 0) (t : List UInt8) :
    ∀ (m : Nat) (x : List UInt8), x.length ≤ m → scanA A (x ++ c :: t) = (scanA A x).bind fun L => (scanA A (c :: t)).map (L ++ ·)
  | m, [], _ => by
    rw [List.nil_append]
    show _ = (scanA A (c :: t)).map ([] ++ ·)
    cases scanA A (c :: t) <;> rfl
  | 0, a :: x, hm => by simp at hm
  | m + 1, a :: x, hm => by
    simp at hm
    rw [List.cons_append]
    by_cases hb : BraceB a
    · rcases hb with rfl | rfl
      · match x, hm with
        | [], _ =>
          rw [scan_short [] (by decide), List.nil_append]
          match t with
          | [] => rfl
          | e :: t =>
            rw [scan_open, if_neg]
            · rfl
            · rintro ⟨_, h1, h2⟩
              have := hA _ h2
              rcases hc with rfl | rfl
              · revert this; decide
              · revert h1; decide
        | [b], _ =>
          rw [scan_short [b] (by simp), List.singleton_append, scan_open, if_neg]
          · rfl
          · rintro ⟨h1, _⟩
            rcases hc with rfl | rfl <;> revert h1 <;> decide
        | b :: e :: r, hm =>
          rw [List.cons_append, List.cons_append, scan_open, scan_open]
          by_cases hcd : e = 125 ∧ 48 ≤ b.toNat ∧ A (b.toNat - 48) = true
          · rw [if_pos hcd, if_pos hcd, scan_app hA hc t m r (by simp at hm; omega)]
            cases scanA A r with
            | none => rfl
            | some L =>
              cases scanA A (c :: t) with
              | none => rfl
              | some M => rfl
          · rw [if_neg hcd, if_neg hcd]; rfl
      · rw [scan_close, scan_close]; rfl
    · rw [scan_skip hb, scan_skip hb]
      exact scan_app hA hc t m x hm
theorem index_cons (c : UInt8) (r sub : List UInt8) : Lib.index (c :: r) sub = if sub.isPrefixOf (c :: r) then 0 else if Lib.index r sub = -1 then -1 else Lib.index r sub + 1 := by
  rw [Lib.index]
  by_cases h : sub.isPrefixOf (c :: r) = true
  · rw [if_pos h, if_pos h]
  · rw [if_neg h, if_neg h]
    by_cases h2 : Lib.index r sub = -1
    · rw [if_pos h2, if_pos (by rw [h2]; rfl)]
    · rw [if_neg h2, if_neg (by simpa using h2)]
theorem index_tail {c : UInt8} {r sub : List UInt8} (h : Lib.index (c :: r) sub = -1) : ¬ sub.isPrefixOf (c :: r) = true ∧ Lib.index r sub = -1 := by
  rw [index_cons] at h
  split at h
  · cases h
  · rename_i h1
    split at h
    · rename_i h2; exact ⟨h1, h2⟩
    · have := Lib.index_ge r sub; omega
theorem pl_prefix {i : Nat} {c : UInt8} {r : List UInt8} : (plL i).isPrefixOf (c :: r) = true ↔ ∃ r2, c :: r = 123 :: UInt8.ofNat (48 + i) :: 125 :: r2 := by
  unfold plL
  constructor
  · intro h
    obtain ⟨t, ht⟩ := List.isPrefixOf_iff_prefix.1 h
    exact ⟨t, by rw [← ht]; rfl⟩
  · rintro ⟨r2, h⟩
    rw [h]
    exact List.isPrefixOf_iff_prefix.2 ⟨r2, rfl⟩
theorem dg_of {d : UInt8} {i : Nat} (hi : i < 10) : d = UInt8.ofNat (48 + i) ↔ 48 ≤ d.toNat ∧ d.toNat - 48 = i := by
  constructor
  · rintro rfl
    rw [UInt8.toNat_ofNat_of_lt' (by show 48 + i < 256; omega)]
    omega
  · rintro ⟨h1, h2⟩
    apply UInt8.toNat_inj.1
    rw [UInt8.toNat_ofNat_of_lt' (by show 48 + i < 256; omega)]
    omega
/-- where a placeholder does not occur, it does not matter whether it is one -/
theorem scan_less {A B : Nat → Bool} {i : Nat} (hi : i < 10) (hAB : ∀ j, j ≠ i → A j = B j) : ∀ (m : Nat) (s : List UInt8), s.length ≤ m → Lib.index s (plL i) = -1 → scanA A s = scanA B s
  | m, [], _, _ => rfl
  | 0, c :: r, hm, _ => by simp at hm
  | m + 1, c :: r, hm, h => by
    simp at hm
    obtain ⟨h1, h2⟩ := index_tail h
    by_cases hb : BraceB c
    · rcases hb with rfl | rfl
      · match r, hm, h1, h2 with
        | [], _, _, _ => rfl
        | [d], _, _, _ => rfl
        | d :: e :: r, hm, h1, h2 =>
          rw [scan_open, scan_open]
          have h3 := (index_tail (index_tail h2).2).2
          rw [scan_less hi hAB m r (by simp at hm; omega) h3]
          by_cases hd : e = 125 ∧ 48 ≤ d.toNat ∧ d.toNat - 48 = i
          · exact absurd (pl_prefix.2 ⟨r, by rw [hd.1, (dg_of hi).2 hd.2]⟩) h1
          · have : (e = 125 ∧ 48 ≤ d.toNat ∧ A (d.toNat - 48) = true) ↔ (e = 125 ∧ 48 ≤ d.toNat ∧ B (d.toNat - 48) = true) := by
              constructor
              · rintro ⟨a, b, c⟩; exact ⟨a, b, by rw [← hAB _ (fun e => hd ⟨a, b, e⟩)]; exact c⟩
              · rintro ⟨a, b, c⟩; exact ⟨a, b, by rw [hAB _ (fun e => hd ⟨a, b, e⟩)]; exact c⟩
            by_cases hq : e = 125 ∧ 48 ≤ d.toNat ∧ A (d.toNat - 48) = true
            · rw [if_pos hq, if_pos (this.1 hq)]
            · rw [if_neg hq, if_neg (fun x => hq (this.2 x))]
      · rw [scan_close, scan_close]
    · rw [scan_skip hb, scan_skip hb]
      exact scan_less hi hAB m r hm h2
theorem plL_ne (i : Nat) : plL i ≠ [] := by unfold plL; simp
theorem count_skip {c : UInt8} {r sub : List UInt8} (hs : sub ≠ []) (h : ¬ sub.isPrefixOf (c :: r) = true) : Lib.count (c :: r) sub = Lib.count r sub := by
  have hi := index_cons c r sub
  rw [if_neg h] at hi
  by_cases h2 : Lib.index r sub = -1
  · rw [if_pos h2] at hi
    rw [Lib.count_miss hi, Lib.count_miss h2]
  · rw [if_neg h2] at hi
    have hge := Lib.index_ge r sub
    obtain ⟨j, hj⟩ : ∃ j : Nat, Lib.index r sub = j := ⟨(Lib.index r sub).toNat, by omega⟩
    rw [Lib.count_hit hs (i := j + 1) (by rw [hi, hj]; rfl), Lib.count_hit hs hj]
    rw [show j + 1 + sub.length = (j + sub.length) + 1 by omega, List.drop_succ_cons]
theorem count_front (i : Nat) (r : List UInt8) : Lib.count (plL i ++ r) (plL i) = 1 + Lib.count r (plL i) := by
  have h0 : Lib.index (plL i ++ r) (plL i) = (0 : Nat) := by
    show Lib.index (123 :: (UInt8.ofNat (48 + i) :: 125 :: r)) (plL i) = 0
    rw [index_cons, if_pos (pl_prefix.2 ⟨r, rfl⟩)]
  rw [Lib.count_hit (plL_ne i) h0, Nat.zero_add, List.drop_left]
/-- a placeholder is counted where it is read -/
theorem scan_count {A : Nat → Bool} {i : Nat} (hi : i < 10) (hAi : A i = true) : ∀ (m : Nat) (s : List UInt8) (L : List Nat), s.length ≤ m → scanA A s = some L → Lib.count s (plL i) = L.count i
  | m, [], L, _, h => by
    injection h with h
    subst h
    rfl
  | 0, c :: r, L, hm, _ => by simp at hm
  | m + 1, c :: r, L, hm, h => by
    simp at hm
    by_cases hb : BraceB c
    · rcases hb with rfl | rfl
      · match r, hm, h with
        | [], _, h => cases h
        | [d], _, h => cases h
        | d :: e :: r, hm, h =>
          rw [scan_open] at h
          split at h
          · rename_i hc
            obtain ⟨L2, h2, rfl⟩ := Option.map_eq_some_iff.1 h
            have ih := scan_count hi hAi m r L2 (by simp at hm; omega) h2
            obtain ⟨rfl, hd1, hd2⟩ := hc
            by_cases hd : d.toNat - 48 = i
            · have hdd := (dg_of hi).2 ⟨hd1, hd⟩
              subst hdd
              have := count_front i r
              rw [show (123 :: UInt8.ofNat (48 + i) :: 125 :: r : List UInt8) = plL i ++ r from rfl, this, ih, hd, List.count_cons_self]
              omega
            · have hn1 : ¬ (plL i).isPrefixOf (123 :: d :: 125 :: r) = true := fun hp => by
                obtain ⟨r2, h3⟩ := pl_prefix.1 hp
                injection h3 with _ h3
                injection h3 with h3 _
                exact hd ((dg_of hi).1 h3).2
              have hn2 : ¬ (plL i).isPrefixOf (d :: 125 :: r) = true := fun hp => by
                obtain ⟨r2, h3⟩ := pl_prefix.1 hp
                injection h3 with _ h3
                injection h3 with h3 _
                have := ((dg_of hi).1 h3).2
                revert this hi
                show i < 10 → (125 : Nat) - 48 = i → False
                omega
              have hn3 : ¬ (plL i).isPrefixOf (125 :: r) = true := fun hp => by
                obtain ⟨r2, h3⟩ := pl_prefix.1 hp
                injection h3 with h3 _
                revert h3; decide
              rw [count_skip (plL_ne i) hn1, count_skip (plL_ne i) hn2, count_skip (plL_ne i) hn3, ih, List.count_cons_of_ne hd]
          · cases h
      · rw [scan_close] at h; cases h
    · rw [scan_skip hb] at h
      have hn : ¬ (plL i).isPrefixOf (c :: r) = true := fun hp => by
        obtain ⟨r2, h3⟩ := pl_prefix.1 hp
        injection h3 with h3 _
        exact hb (.inl h3)
      rw [count_skip (plL_ne i) hn]
      exact scan_count hi hAi m r L hm h
/-- the first place at which a text occurs -/
theorem index_split {sub : List UInt8} (hs : sub ≠ []) : ∀ (s : List UInt8) (i : Nat), Lib.index s sub = i → ∃ x y, s = x ++ (sub ++ y) ∧ x.length = i ∧ Lib.index x sub = -1
  | [], i, h => by
    have : Lib.index ([] : List UInt8) sub = -1 := by
      cases sub with
      | nil => exact absurd rfl hs
      | cons a b => rfl
    rw [this] at h; omega
  | c :: r, i, h => by
    have hnil : Lib.index ([] : List UInt8) sub = -1 := by
      cases sub with
      | nil => exact absurd rfl hs
      | cons a b => rfl
    rw [index_cons] at h
    split at h
    · rename_i hp
      obtain ⟨t, ht⟩ := List.isPrefixOf_iff_prefix.1 hp
      exact ⟨[], t, by rw [List.nil_append, ht], by simp; omega, hnil⟩
    · rename_i hp
      split at h
      · omega
      · have hge := Lib.index_ge r sub
        obtain ⟨x, y, e1, e2, e3⟩ := index_split hs r (i - 1) (by omega)
        have hpx : ¬ sub.isPrefixOf (c :: x) = true := fun hp2 => hp (by
          obtain ⟨t, ht⟩ := List.isPrefixOf_iff_prefix.1 hp2
          exact List.isPrefixOf_iff_prefix.2 ⟨t ++ (sub ++ y), by rw [e1, ← List.append_assoc, ht, List.cons_append]⟩)
        refine ⟨c :: x, y, by rw [e1]; rfl, by rw [List.length_cons, e2]; omega, ?_⟩
        rw [index_cons, if_neg hpx, if_pos e3]
/-- each placeholder from k on is there once, and no other brace -/
def OkFrom (n k : Nat) (s : List UInt8) : Prop := ∃ L, scanA (fun j => decide (k ≤ j ∧ j < n)) s = some L ∧ ∀ j, k ≤ j → j < n → L.count j = 1
theorem ok_count {n k : Nat} (hn : n ≤ 9) (hk : k < n) {s : List UInt8} (h : OkFrom n k s) : Lib.count s (plL k) = 1 := by
  obtain ⟨L, h1, h2⟩ := h
  rw [scan_count (by omega) (decide_eq_true ⟨Nat.le_refl _, hk⟩) _ s L (Nat.le_refl _) h1]
  exact h2 k (Nat.le_refl _) hk
theorem ok_step {n k : Nat} (hn : n ≤ 9) (hk : k < n) {s : List UInt8} (hc : Lib.count s (plL k) = 1) : OkFrom n k s ↔ OkFrom n (k + 1) (Lib.replaceK (plL k) [0] 1 s) := by
  obtain ⟨i, hi⟩ : ∃ i : Nat, Lib.index s (plL k) = i := by
    by_cases h : Lib.index s (plL k) = -1
    · rw [Lib.count_miss h] at hc; cases hc
    · have := Lib.index_ge s (plL k); exact ⟨(Lib.index s (plL k)).toNat, by omega⟩
  obtain ⟨x, y, e1, e2, e3⟩ := index_split (plL_ne k) s i hi
  have hrep : Lib.replaceK (plL k) [0] 1 s = x ++ 0 :: y := by
    rw [Lib.replaceK_hit (plL k) [0] 0 s i hi]
    have ht : s.take i = x := by rw [e1, ← e2, List.take_left]
    have hd : s.drop (i + (plL k).length) = y := by rw [← List.drop_drop, e1, ← e2, List.drop_left, List.drop_left]
    rw [ht, hd]
    show x ++ [0] ++ y = _
    simp
  have e4 : Lib.index y (plL k) = -1 := by
    rw [Lib.count_hit (plL_ne k) hi] at hc
    have hd : s.drop (i + (plL k).length) = y := by rw [← List.drop_drop, e1, ← e2, List.drop_left, List.drop_left]
    rw [hd] at hc
    by_cases h : Lib.index y (plL k) = -1
    · exact h
    · have := Lib.index_ge y (plL k)
      obtain ⟨j, hj⟩ : ∃ j : Nat, Lib.index y (plL k) = j := ⟨(Lib.index y (plL k)).toNat, by omega⟩
      rw [Lib.count_hit (plL_ne k) hj] at hc
      omega
  rw [hrep]
  have hA : ∀ j, (fun j => decide (k ≤ j ∧ j < n)) j = true → j < 10 := fun j h => by have := of_decide_eq_true h; omega
  have hB : ∀ j, (fun j => decide (k + 1 ≤ j ∧ j < n)) j = true → j < 10 := fun j h => by have := of_decide_eq_true h; omega
  have hAB : ∀ j, j ≠ k → (fun j => decide (k ≤ j ∧ j < n)) j = (fun j => decide (k + 1 ≤ j ∧ j < n)) j := fun j h => by
    by_cases h1 : k + 1 ≤ j ∧ j < n
    · show decide _ = decide _; rw [decide_eq_true h1, decide_eq_true (by omega)]
    · show decide _ = decide _; rw [decide_eq_false h1, decide_eq_false (by omega)]
  have hAk : (fun j => decide (k ≤ j ∧ j < n)) k = true := decide_eq_true ⟨Nat.le_refl _, hk⟩
  have hBk : (fun j => decide (k + 1 ≤ j ∧ j < n)) k = false := decide_eq_false (by omega)
  have sx := scan_less (by omega : k < 10) hAB _ x (Nat.le_refl _) e3
  have sy := scan_less (by omega : k < 10) hAB _ y (Nat.le_refl _) e4
  unfold OkFrom
  generalize hAe : (fun j => decide (k ≤ j ∧ j < n)) = A at *
  generalize hBe : (fun j => decide (k + 1 ≤ j ∧ j < n)) = B at *
  have hpl : scanA A (plL k ++ y) = (scanA A y).map (k :: ·) := by
    have hdk := (dg_of (d := UInt8.ofNat (48 + k)) (by omega : k < 10)).1 rfl
    show scanA A (123 :: UInt8.ofNat (48 + k) :: 125 :: y) = _
    rw [scan_open, if_pos ⟨rfl, hdk.1, by rw [hdk.2]; exact hAk⟩, hdk.2]
  have hs1 : scanA A s = (scanA B x).bind fun L => ((scanA B y).map (k :: ·)).map (L ++ ·) := by
    rw [e1]
    have := scan_app hA (c := 123) (.inl rfl) (UInt8.ofNat (48 + k) :: 125 :: y) _ x (Nat.le_refl _)
    rw [show x ++ (plL k ++ y) = x ++ 123 :: (UInt8.ofNat (48 + k) :: 125 :: y) from rfl, this, show (123 :: (UInt8.ofNat (48 + k) :: 125 :: y) : List UInt8) = plL k ++ y from rfl, hpl, sx, sy]
  have hs2 : scanA B (x ++ 0 :: y) = (scanA B x).bind fun L => (scanA B y).map (L ++ ·) := by
    rw [scan_app hB (.inr rfl) y _ x (Nat.le_refl _), scan_skip (by unfold BraceB; decide)]
  rw [hs1, hs2]
  cases hx : scanA B x with
  | none => exact ⟨fun ⟨L, h, _⟩ => (by cases h), fun ⟨L, h, _⟩ => (by cases h)⟩
  | some L1 =>
    cases hy : scanA B y with
    | none => exact ⟨fun ⟨L, h, _⟩ => (by cases h), fun ⟨L, h, _⟩ => (by cases h)⟩
    | some L2 =>
      have k1 : L1.count k = 0 := List.count_eq_zero.2 fun hm => by
        have := scan_mem _ x L1 (Nat.le_refl _) hx k hm
        rw [hBk] at this; cases this
      have k2 : L2.count k = 0 := List.count_eq_zero.2 fun hm => by
        have := scan_mem _ y L2 (Nat.le_refl _) hy k hm
        rw [hBk] at this; cases this
      constructor
      · rintro ⟨L, h, hj⟩
        injection h with h
        subst h
        refine ⟨L1 ++ L2, rfl, fun j h1 h2 => ?_⟩
        have := hj j (by omega) h2
        rw [List.count_append, List.count_cons_of_ne (by omega)] at this
        rw [List.count_append]; exact this
      · rintro ⟨L, h, hj⟩
        injection h with h
        subst h
        refine ⟨L1 ++ k :: L2, rfl, fun j h1 h2 => ?_⟩
        by_cases he : j = k
        · subst he
          rw [List.count_append, List.count_cons_self, k1, k2]
        · have := hj j (by omega) h2
          rw [List.count_append] at this
          rw [List.count_append, List.count_cons_of_ne (fun e => he e.symm)]; exact this
theorem ok_end {n : Nat} {s : List UInt8} : OkFrom n n s ↔ ∀ c ∈ s, ¬ BraceB c := by
  have key : ∀ (m : Nat) (s : List UInt8), s.length ≤ m → ((∃ L, scanA (fun j => decide (n ≤ j ∧ j < n)) s = some L) ↔ ∀ c ∈ s, ¬ BraceB c) := by
    intro m
    induction m with
    | zero =>
      intro s hs
      have : s = [] := List.eq_nil_of_length_eq_zero (by omega)
      subst this
      exact ⟨fun _ c hc => (by cases hc), fun _ => ⟨[], rfl⟩⟩
    | succ m ih =>
      intro s hs
      cases s with
      | nil => exact ⟨fun _ c hc => (by cases hc), fun _ => ⟨[], rfl⟩⟩
      | cons c r =>
        simp at hs
        by_cases hb : BraceB c
        · constructor
          · rintro ⟨L, h⟩
            rcases hb with rfl | rfl
            · match r, h with
              | [], h => cases h
              | [d], h => cases h
              | d :: e :: r, h =>
                rw [scan_open, if_neg (by rintro ⟨_, _, h3⟩; have := of_decide_eq_true h3; omega)] at h
                cases h
            · rw [scan_close] at h; cases h
          · exact fun h => absurd hb (h c (List.mem_cons_self ..))
        · rw [scan_skip hb, ih r hs]
          exact ⟨fun h d hd => by
            rcases List.mem_cons.1 hd with rfl | hd
            · exact hb
            · exact h d hd, fun h d hd => h d (List.mem_cons_of_mem _ hd)⟩
  rw [← key _ s (Nat.le_refl _)]
  exact ⟨fun ⟨L, h, _⟩ => ⟨L, h⟩, fun ⟨L, h⟩ => ⟨L, h, fun j h1 h2 => absurd h2 (by omega)⟩⟩
end Go.Proofs.YtaolbfbnjbpljaaDoor
