/- Plain lemmas on worlds, slices and contracts, over any program. -/
import Derived.Test.YtkodnagneblgaaaRows
import Derived.WalkKit
import Derived.WalkSpells
import Derived.WalkLawsBesides
import Derived.Lib.Hide
import Derived.BigQuiet
import Derived.Deep.QuietTactic
import Derived.Lib.ConvBytes
import Derived.Lib.Join
import Derived.Lib.SlTrimSet
import Derived.Lib.Repeat
import Derived.Lib.Atoi
import Derived.StillTail
namespace Go.Proofs.Ytkodnagneblgaaa
open Go.RowKit

/-- The slice value '.slice ad n c' reads in w as the cells xs, from block b, offset off on. -/
structure SlAt (w : World) (ad : Option Addr) (n : Nat) (xs : List Value) (b off : Nat) : Prop where
  len : xs.length = n
  max : n ≤ 9223372036854775807
  adr : n ≠ 0 → ad = some ⟨b, off, none⟩
  cell : ∀ i (_h : i < n), w.cell? ⟨b, off + i, none⟩ = some (xs.getD i undef)

/-- .. from some place on. -/
def Sl (w : World) (ad : Option Addr) (n : Nat) (xs : List Value) : Prop := ∃ b off, SlAt w ad n xs b off

theorem SlAt.ix {P : Program} {w : World} {ad : Option Addr} {n c : Nat} {xs : List Value} {b off k : Nat} (h : SlAt w ad n xs b off) (T E : TypeId)
    (hT : P.underlying T = some (.slice E)) (hE : P.cellsOf E = 1) (hk : k < n) (W : World) :
    (Instr.indexAt T (.slice ad n c) (.int .i64 (k : Int))).run P W = .ok (.pointer (some ⟨b, off + k, none⟩)) W := by
  rw [h.adr (by omega)]
  have hel : P.elem T = E := by simp [Program.elem, hT]
  rw [run_indexAt_slice W T _ n c .i64 k (by rw [hel]; exact hT), hel, if_pos (by omega)]
  have hs : (sizeOf E).run P W = .ok 1 W := by
    unfold Program.cellsOf at hE
    cases hi : P.info? E with
    | none => simp [hi] at hE
    | some i => simp [hi] at hE; simp [sizeOf, typeInfo, hi, hE]
  rw [hs]
  simp [Result.andThen, Addr.add]

theorem SlAt.block {w : World} {ad : Option Addr} {n : Nat} {xs : List Value} {b off : Nat} (h : SlAt w ad n xs b off) (hn : n ≠ 0) : b < w.heap.size := by
  have := h.cell 0 (by omega)
  exact World.block_lt_of_cell? w _ this

theorem SlAt.below {w w' : World} {ad : Option Addr} {n : Nat} {xs : List Value} {b off : Nat} (h : SlAt w ad n xs b off) (hb : Below w.heap.size w w') : SlAt w' ad n xs b off :=
  ⟨h.len, h.max, h.adr, fun i hi => by rw [hb.cell (p := ⟨b, off + i, none⟩) (h.block (by omega))]; exact h.cell i hi⟩


theorem getD_map_u8 (bs : List UInt8) (k : Nat) (h : k < bs.length) : (bs.map fun x => Value.int .u8 (x.toNat : Int)).getD k undef = .int .u8 ((bs.getD k 0).toNat : Int) := by
  simp [List.getD, List.getElem?_map, List.getElem?_eq_getElem h]

/-- the bytes of a slice -/
def u8s (bs : List UInt8) : List Value := bs.map fun x => .int .u8 (x.toNat : Int)
theorem u8s_getD (bs : List UInt8) (k : Nat) (h : k < bs.length) : (u8s bs).getD k undef = .int .u8 ((bs.getD k 0).toNat : Int) := getD_map_u8 bs k h
theorem u8s_length (bs : List UInt8) : (u8s bs).length = bs.length := by simp [u8s]

theorem foldl_take_succ {α β : Type} (f : α → β → α) (l : List β) (a : α) (k : Nat) (h : k < l.length) (d : β) :
    (l.take (k + 1)).foldl f a = f ((l.take k).foldl f a) (l.getD k d) := by
  rw [List.take_succ_eq_append_getElem h, List.foldl_append]
  simp [List.getD, List.getElem?_eq_getElem h]


/-- the numbers of a slice of int -/
def ints (zs : List Int) : List Value := zs.map (.int .i64)
theorem ints_length (zs : List Int) : (ints zs).length = zs.length := by simp [ints]
theorem ints_getD (zs : List Int) (k : Nat) (h : k < zs.length) : (ints zs).getD k undef = .int .i64 (zs.getD k 0) := by
  simp [ints, List.getD, List.getElem?_map, List.getElem?_eq_getElem h]
/-- the strings of a slice -/
def strs (ss : List ByteArray) : List Value := ss.map .string
theorem strs_length (ss : List ByteArray) : (strs ss).length = ss.length := by simp [strs]
theorem strs_getD (ss : List ByteArray) (k : Nat) (h : k < ss.length) : (strs ss).getD k undef = .string (ss.getD k .empty) := by
  simp [strs, List.getD, List.getElem?_map, List.getElem?_eq_getElem h]
theorem getD_mem {α : Type} (l : List α) (k : Nat) (d : α) (h : k < l.length) : l.getD k d ∈ l := by
  simp [List.getD, List.getElem?_eq_getElem h]

theorem any_take_succ {α : Type} (p : α → Bool) (l : List α) (k : Nat) (h : k < l.length) (d : α) : (l.take (k + 1)).any p = ((l.take k).any p || p (l.getD k d)) := by
  rw [List.take_succ_eq_append_getElem h, List.any_append]
  simp [List.getD, List.getElem?_eq_getElem h]
theorem any_of_getD {α : Type} (p : α → Bool) (l : List α) (k : Nat) (h : k < l.length) (d : α) (hp : p (l.getD k d) = true) : l.any p = true :=
  List.any_eq_true.2 ⟨_, getD_mem l k d h, hp⟩
theorem all_take_succ {α : Type} (p : α → Bool) (l : List α) (k : Nat) (h : k < l.length) (d : α) : (l.take (k + 1)).all p = ((l.take k).all p && p (l.getD k d)) := by
  rw [List.take_succ_eq_append_getElem h, List.all_append]
  simp [List.getD, List.getElem?_eq_getElem h]
theorem all_of_getD {α : Type} (p : α → Bool) (l : List α) (k : Nat) (h : k < l.length) (d : α) (hp : p (l.getD k d) = false) : l.all p = false := by
  rw [← Bool.not_eq_true, List.all_eq_true]
  intro ha
  have := ha _ (getD_mem l k d h)
  rw [hp] at this
  cases this

theorem ret_int {k : IntKind} {a b : Int} (h : a = b) : Ending.returned (.int k a) = .returned (.int k b) := by rw [h]
theorem ret_bool {a b : Bool} (h : a = b) : Ending.returned (.bool a) = .returned (.bool b) := by rw [h]

theorem Sl.below {w w' : World} {ad : Option Addr} {n : Nat} {xs : List Value} (h : Sl w ad n xs) (hb : Below w.heap.size w w') : Sl w' ad n xs := by
  obtain ⟨b, off, h⟩ := h
  exact ⟨b, off, h.below hb⟩

theorem Sl.alloc {w : World} {ad : Option Addr} {n : Nat} {xs : List Value} (h : Sl w ad n xs) (o : Obj) : Sl (w.alloc o) ad n xs := h.below ((Below.refl _ _).alloc (Nat.le_refl _) _)
theorem Sl.drewN {w : World} {ad : Option Addr} {n : Nat} {xs : List Value} (h : Sl w ad n xs) (k : Nat) : Sl (w.drewN k) ad n xs := h.below ⟨rfl, rfl, rfl, Nat.le_refl _, fun _ _ => rfl⟩
theorem Sl.len {w : World} {ad : Option Addr} {n : Nat} {xs : List Value} (h : Sl w ad n xs) : xs.length = n := by obtain ⟨b, off, h⟩ := h; exact h.len
theorem Sl.max {w : World} {ad : Option Addr} {n : Nat} {xs : List Value} (h : Sl w ad n xs) : n ≤ 9223372036854775807 := by obtain ⟨b, off, h⟩ := h; exact h.max

theorem bytes_below (w : World) (e : TypeId) (s : ByteArray) : Below w.heap.size w (Lib.bytesWorld w e s) :=
  ⟨rfl, rfl, rfl, by rw [Lib.bytesWorld_size]; omega, fun k hk => Lib.bytesWorld_at_old w e s k hk⟩

theorem ba_len (s : ByteArray) : s.data.toList.length = s.size := by rw [Array.length_toList]; rfl

theorem bytes_sl (w : World) (e : TypeId) (s : ByteArray) (hs : s.size ≤ 9223372036854775807) : Sl (Lib.bytesWorld w e s) (some ⟨w.heap.size, 0, none⟩) s.size (u8s s.data.toList) := by
  refine ⟨w.heap.size, 0, ⟨by rw [u8s_length, ba_len], hs, fun _ => rfl, fun i hi => ?_⟩⟩
  rw [u8s_getD _ _ (by rw [ba_len]; exact hi), Nat.zero_add]
  exact Lib.bytesWorld_cell w e s i hi

/-- A world that has grown from w: what was there is as it was. -/
def Ext (w : World) := { x : World // Below w.heap.size w x }
instance (w : World) : Nonempty (Ext w) := ⟨⟨w, Below.refl _ _⟩⟩
theorem Ext.cell {w : World} (e : Ext w) (a : Addr) (h : a.block < w.heap.size) : e.1.cell? a = w.cell? a := e.2.cell h
theorem Ext.frozen {w : World} (e : Ext w) (a : Addr) (h : a.block < w.heap.size) : e.1.frozen? a = w.frozen? a := e.2.frozen h
theorem Calls.ext {P : Program} {f : FuncId} {args : Array Value} {w : World} {e : Ext w} {v : Value}
    (h : Calls P f args e.1 fun e' w' => e' = .returned v ∧ Below e.1.heap.size e.1 w') : Calls P f args e.1 fun e' w'' => e' = .returned v ∧ ∃ e2 : Ext w, w'' = e2.1 :=
  h.mono fun _ w' ⟨he, hb⟩ => ⟨he, ⟨w', e.2.trans (hb.mono e.2.size)⟩, rfl⟩
theorem Calls.ext_same {P : Program} {f : FuncId} {args : Array Value} {w : World} {e : Ext w} {v : Value}
    (h : Calls P f args e.1 fun e' w' => e' = .returned v ∧ e.1 = w') : Calls P f args e.1 fun e' w'' => e' = .returned v ∧ ∃ e2 : Ext w, w'' = e2.1 :=
  h.mono fun _ _w' ⟨he, hb⟩ => ⟨he, e, hb.symm⟩
/-- A region that draws its order, whose operations read, and whose callees make memory at most: one walk, in the order of the text. -/
theorem wp_region_ext {P : Program} {id : Nat} {Q : Exit → Act → World → Prop} {a : Act} {w : World} {l : List Oper} (hm : P.follows .mixedOrders = true) (hB : Region.lexB .any l.toArray = true)
    (h : wpQuiet P l.toArray (fun w' => ∃ e : Ext w, w' = e.1) (fun a' => ∀ w', (∃ e : Ext w, w' = e.1) → Q .normal a' w') l a) : (Code.region id l.toArray true).wp P Q a w :=
  wp_region_quiet (C := fun w' => ∃ e : Ext w, w' = e.1) hm hB ⟨⟨_, (Below.refl _ w).drew⟩, rfl⟩ (by simpa using h)
theorem Sl.ext {w : World} {ad : Option Addr} {n : Nat} {xs : List Value} (h : Sl w ad n xs) (e : Ext w) : Sl e.1 ad n xs := h.below e.2
theorem box_below (w : World) (o : Obj) (k : Nat) : Below w.heap.size w ((w.alloc o).drewN k) :=
  ((Below.refl _ w).alloc (Nat.le_refl _) o).trans ⟨rfl, rfl, rfl, Nat.le_refl _, fun _ _ => rfl⟩
theorem ext_below (w : World) (o : Obj) (e : Ext (w.alloc o)) : Below w.heap.size w e.1 :=
  ((Below.refl _ w).alloc (Nat.le_refl _) o).trans (e.2.mono (by simp))

/-- the block of a slice's address -/
theorem own_form {w : World} {base : Nat} {E : TypeId} {v : Value} {n : Nat} {xs : List Value} (h : w.ownsRow base E 1 v n xs) : ∃ ad c, v = .slice ad n c := by
  obtain ⟨_, ⟨rfl, rfl⟩ | ⟨g, cap, cur, rfl, _⟩⟩ := h
  · exact ⟨_, _, rfl⟩
  · exact ⟨_, _, rfl⟩

theorem Own.sl {w : World} {base : Nat} {E : TypeId} {ad : Option Addr} {n c : Nat} {xs : List Value} (h : w.ownsRow base E 1 (.slice ad n c) n xs) : Sl w ad n xs := by
  have hl : xs.length = n := by have := h.1; omega
  obtain ⟨_, ⟨h1, h2⟩ | ⟨g, cap, cur, h1, h2, h3, h4, h5, h6, h7⟩⟩ := h
  · subst h2
    exact ⟨0, 0, hl, by omega, fun h => absurd rfl h, fun i hi => absurd hi (Nat.not_lt_zero _)⟩
  · injection h1 with e1 e2 e3
    subst e1
    refine ⟨g, 0, hl, by unfold maxLen at h5; omega, fun _ => rfl, fun i hi => ?_⟩
    have hi' : i < cur.size := by omega
    have hx : xs.getD i undef = cur[i] := by
      rw [← h7]
      simp only [List.getD, Nat.mul_one]
      rw [List.getElem?_take, if_pos hi]
      simp [hi']
    rw [hx]
    simp [World.cell?, h3, hi']

theorem Own.lt {w : World} {base : Nat} {E : TypeId} {ad : Option Addr} {n c : Nat} {xs : List Value} (h : w.ownsRow base E 1 (.slice ad n c) n xs) :
    ∀ k, Value.ownBlock (.slice ad n c) = some k → base ≤ k ∧ k < w.heap.size := World.ownsRow.lt h

theorem Own.below {w w' : World} {base : Nat} {E : TypeId} {v : Value} {n : Nat} {xs : List Value} (h : w.ownsRow base E 1 v n xs) (hb : Below w.heap.size w w') : w'.ownsRow base E 1 v n xs := by
  refine ⟨h.1, ?_⟩
  rcases h.2 with h2 | ⟨g, cap, cur, h1, h2, h3, h4, h5, h6, h7⟩
  · exact .inl h2
  · have hg : g < w.heap.size := by
      rcases Nat.lt_or_ge g w.heap.size with h' | h'
      · exact h'
      · simp [Array.getElem?_eq_none h'] at h3
    exact .inr ⟨g, cap, cur, h1, h2, (hb.block g hg).trans h3, h4, h5, h6, h7⟩

theorem Own.rebase {w : World} {base base' : Nat} {E : TypeId} {v : Value} {n : Nat} {xs : List Value} (h : w.ownsRow base E 1 v n xs) (hb : base' ≤ base) : w.ownsRow base' E 1 v n xs := by
  refine ⟨h.1, ?_⟩
  rcases h.2 with h2 | ⟨g, cap, cur, h1, h2, h3⟩
  · exact .inl h2
  · exact .inr ⟨g, cap, cur, h1, by omega, h3⟩

/-- append of one element to a slice of the call's own -/
theorem wpList_app {P : Program} {ops : Array Oper} {rest : List Oper} {o : Oper} {a : Act} {Q : Exit → Act → World → Prop} {w : World} (t E : TypeId) (bytes : Nat)
    (ht : P.underlying t = some (.slice E)) (i : TypeInfo) (z : Value) (hi : P.info? E = some i) (hz : i.zero = some z) (hsize : i.size = 1) (hby : i.bytes = bytes) (hzs : z.cells.size = 1)
    (hgd : o.guard = none) (s x : Operand) (ho : o.op = .call { callee := .builtin .append, args := #[s, x], argTypes := #[t, t] })
    (base : Nat) (ad : Option Addr) (n c : Nat) (xs : List Value) (hs : a.eval s = .slice ad n c) (hown : w.ownsRow base E 1 (.slice ad n c) n xs)
    (y : Value) (E' : TypeId) (hx : a.eval x = .slice (some ⟨w.heap.size, 0, none⟩) 1 1) (hy : y.oneCell' = true)
    (h63 : n + 1 ≤ maxLen) (hbytes : (n + 1) * bytes ≤ 140737488355328) (hbase : base ≤ w.heap.size)
    (h : ∀ ad' c' w', w'.ownsRow base E 1 (.slice ad' (n + 1) c') (n + 1) (xs ++ [y]) → Below base w w' → w.grownBy w' (Value.ownBlock (.slice ad n c)) → w.heap.size < w'.heap.size →
      wpList P ops Q rest (a.put o.dst (.slice ad' (n + 1) c')) w') : wpList P ops Q (o :: rest) a (w.alloc (.cells #[y] E')) := by
  refine wpList_append_own _ hgd s x t ho base E i z 1 bytes ht hi hz hsize hby hzs (by omega) (.slice ad n c) n xs hs (World.ownsRow.alloc hown _) ⟨w.heap.size, 0, none⟩ 1 1 [y] hx rfl (cell_one_new _ _ _)
    (by simpa using hy) h63 hbytes (by simp; omega) ?_
  intro v' w' h1 h2 _
  obtain ⟨ad', c', rfl⟩ := own_form h1
  have hlt := Own.lt hown
  refine h ad' c' w' h1 ?_ ?_ (by have := h2.size; simp at this; omega)
  · exact ((Below.refl base w).alloc hbase _).grown h2 (by simp; omega) (fun k hk => (hlt k hk).1)
  · exact ⟨h2.os, h2.tape, h2.output, by have := h2.size; simp at this; omega, fun k hk hne => (h2.block k (by simp; omega) hne).trans (Below.heap_alloc _ _ _ hk)⟩

theorem u64_wrap_bd (x : Int) : 0 ≤ IntKind.u64.wrap x ∧ IntKind.u64.wrap x ≤ 18446744073709551615 := by
  rw [IntKind.wrap_u64]; omega


theorem Calls.toExt {P : Program} {f : FuncId} {args : Array Value} {w : World} {v : Value}
    (h : Calls P f args w fun e w' => e = .returned v ∧ Below w.heap.size w w') : Calls P f args w fun e w' => e = .returned v ∧ ∃ x : Ext w, w' = x.1 :=
  h.mono fun _ w' ⟨he, hb⟩ => ⟨he, ⟨w', hb⟩, rfl⟩
/-- nothing that was there has changed -/
def Bel (w X : World) : Prop := Below w.heap.size w X
theorem Bel.refl (w : World) : Bel w w := Below.refl _ _
theorem Bel.alloc {w X : World} (h : Bel w X) (o : Obj) : Bel w (X.alloc o) := Below.alloc h h.size _
theorem Bel.ext {w X : World} (h : Bel w X) (x : Ext X) : Bel w x.1 := Below.trans h (x.2.mono h.size)
theorem Bel.drewN {w X : World} (h : Bel w X) (n : Nat) : Bel w (X.drewN n) := Below.trans h ⟨rfl, rfl, rfl, Nat.le_refl _, fun _ _ => rfl⟩
theorem Bel.drew {w X : World} (h : Bel w X) : Bel w X.drew := Below.drew h
theorem Bel.setCell {w X : World} (h : Bel w X) (p : Addr) (v : Value) (hp : w.heap.size ≤ p.block) : Bel w (X.setCell p v) := Below.setCell h (p := p) hp v
theorem Bel.set3 {w X : World} (h : Bel w X) (a b c : Value) : Bel w (((X.setCell ⟨w.heap.size, 0, none⟩ a).setCell ⟨w.heap.size, 1, none⟩ b).setCell ⟨w.heap.size, 2, none⟩ c) :=
  ((h.setCell _ _ (Nat.le_refl _)).setCell _ _ (Nat.le_refl _)).setCell _ _ (Nat.le_refl _)
theorem Bel.out {w X : World} (h : Bel w X) : Below w.heap.size w X := h
theorem below_drew1 (w : World) : Below w.heap.size w w.drew := (Below.refl _ w).drew
end Go.Proofs.Ytkodnagneblgaaa
/- Plain: the words of a text; their key. -/
namespace Go.Proofs.Ytkodnagneblgaaa
open Go.RowKit
def lowC (c : UInt8) : UInt8 := if 65 ≤ c.toNat ∧ c.toNat ≤ 90 then UInt8.ofNat (c.toNat + 32) else c
def partC (c : UInt8) : Bool := decide ((65 ≤ c.toNat ∧ c.toNat ≤ 90) ∨ (97 ≤ c.toNat ∧ c.toNat ≤ 122) ∨ (48 ≤ c.toNat ∧ c.toNat ≤ 57) ∨ 128 ≤ c.toNat)
def endW (cur : List UInt8) : List (List UInt8) := if cur = [] then [] else [cur]
def wordsG : List UInt8 → List UInt8 → List (List UInt8)
  | [], cur => endW cur
  | c :: r, cur => if partC c then wordsG r (cur ++ [lowC c]) else endW cur ++ wordsG r []
def wordsV (s : List UInt8) : List (List UInt8) := wordsG s []
theorem wordsG_part {s : List UInt8} {i : Nat} (h : i < s.length) (cur : List UInt8) (hp : partC (s.getD i 0) = true) : wordsG (s.drop i) cur = wordsG (s.drop (i + 1)) (cur ++ [lowC (s.getD i 0)]) := by
  have hd : s.drop i = s.getD i 0 :: s.drop (i + 1) := by rw [List.drop_eq_getElem_cons h]; simp [List.getD, List.getElem?_eq_getElem h]
  rw [hd, wordsG, if_pos hp]
theorem wordsG_gap {s : List UInt8} {i : Nat} (h : i < s.length) (cur : List UInt8) (hp : partC (s.getD i 0) = false) : wordsG (s.drop i) cur = endW cur ++ wordsG (s.drop (i + 1)) [] := by
  have hd : s.drop i = s.getD i 0 :: s.drop (i + 1) := by rw [List.drop_eq_getElem_cons h]; simp [List.getD, List.getElem?_eq_getElem h]
  rw [hd, wordsG, if_neg (by rw [hp]; simp)]
theorem lowC_ok (c : UInt8) (h : partC c = true) : lowC c ≠ 32 := by
  have k : ∀ n : Fin 256, partC (UInt8.ofNat n.val) = true → lowC (UInt8.ofNat n.val) ≠ 32 := by decide +kernel
  have := k ⟨c.toNat, c.toNat_lt⟩
  simp only [UInt8.ofNat_toNat] at this
  exact this h
/-- a word: not empty, without blanks -/
def WordOk (w : List UInt8) : Prop := w ≠ [] ∧ ∀ c ∈ w, c ≠ 32
theorem wordsG_ok : ∀ (s cur : List UInt8), (∀ c ∈ cur, c ≠ 32) → ∀ w ∈ wordsG s cur, WordOk w
  | [], cur, hc, w, hw => by
    unfold wordsG endW at hw
    split at hw
    · cases hw
    · rename_i h
      rw [List.mem_singleton.1 hw]
      exact ⟨h, hc⟩
  | c :: r, cur, hc, w, hw => by
    unfold wordsG at hw
    split at hw
    · rename_i h
      exact wordsG_ok r _ (fun d hd => by
        rcases List.mem_append.1 hd with h1 | h1
        · exact hc d h1
        · rw [List.mem_singleton.1 h1]; exact lowC_ok c h) w hw
    · rcases List.mem_append.1 hw with h1 | h1
      · unfold endW at h1
        split at h1
        · cases h1
        · rename_i h
          rw [List.mem_singleton.1 h1]
          exact ⟨h, hc⟩
      · exact wordsG_ok r [] (fun d hd => (by cases hd)) w h1
theorem wordsV_ok (s : List UInt8) : ∀ w ∈ wordsV s, WordOk w := wordsG_ok s [] (fun d hd => (by cases hd))
/-- the words together are no longer than the text -/
def lenSum (l : List (List UInt8)) : Nat := (l.map fun w => w.length + 1).sum
theorem lenSum_app (a b : List (List UInt8)) : lenSum (a ++ b) = lenSum a + lenSum b := by simp [lenSum]
theorem endW_sum (cur : List UInt8) : lenSum (endW cur) ≤ cur.length + 1 := by
  unfold endW
  split
  · simp [lenSum]
  · simp [lenSum]
theorem wordsG_sum : ∀ (s cur : List UInt8), lenSum (wordsG s cur) ≤ s.length + cur.length + 1
  | [], cur => by have := endW_sum cur; unfold wordsG; simp; omega
  | c :: r, cur => by
    unfold wordsG
    split
    · have := wordsG_sum r (cur ++ [lowC c])
      simp at this ⊢
      omega
    · rw [lenSum_app]
      have h1 := endW_sum cur
      have h2 := wordsG_sum r []
      simp at h2 ⊢
      by_cases h : cur = []
      · subst h
        have : lenSum (endW []) = 0 := rfl
        simp
        omega
      · omega
theorem wordsV_sum (s : List UInt8) : lenSum (wordsV s) ≤ s.length + 1 := wordsG_sum s []
theorem lenSum_len : ∀ l : List (List UInt8), l.length ≤ lenSum l
  | [] => Nat.le_refl _
  | w :: l => by
    have := lenSum_len l
    simp [lenSum] at this ⊢
    omega
theorem lenSum_mem : ∀ (l : List (List UInt8)) (w : List UInt8), w ∈ l → w.length + 1 ≤ lenSum l
  | v :: l, w, h => by
    rcases List.mem_cons.1 h with h | h
    · subst h; simp [lenSum]
    · have := lenSum_mem l w h
      simp [lenSum] at this ⊢
      omega
theorem wordsV_len (s : List UInt8) : (wordsV s).length ≤ s.length + 1 := Nat.le_trans (lenSum_len _) (wordsV_sum s)
theorem wordsV_word (s w : List UInt8) (h : w ∈ wordsV s) : w.length ≤ s.length := by have := lenSum_mem _ _ h; have := wordsV_sum s; omega
/-- the words of a text as one string -/
def keyV (s : List UInt8) : List UInt8 := Lib.join (wordsV s) [32]
theorem join_two (a b : List UInt8) (l : List (List UInt8)) : Lib.join (a :: b :: l) [32] = a ++ 32 :: Lib.join (b :: l) [32] := by simp [Lib.join, List.intercalate]
theorem join_one (a : List UInt8) : Lib.join [a] [32] = a := by simp [Lib.join, List.intercalate]
theorem join_sum : ∀ l : List (List UInt8), (Lib.join l [32]).length ≤ lenSum l
  | [] => Nat.zero_le _
  | [a] => by rw [join_one]; simp [lenSum]
  | a :: b :: l => by
    have := join_sum (b :: l)
    rw [join_two, List.length_append, List.length_cons]
    simp [lenSum] at this ⊢
    omega
theorem keyV_len (s : List UInt8) : (keyV s).length ≤ s.length + 1 := Nat.le_trans (join_sum _) (wordsV_sum s)
theorem split_inj : ∀ {a b x y : List UInt8}, (∀ c ∈ a, c ≠ 32) → (∀ c ∈ b, c ≠ 32) → a ++ 32 :: x = b ++ 32 :: y → a = b ∧ x = y
  | [], [], x, y, _, _, h => by injection h with _ h; exact ⟨rfl, h⟩
  | [], c :: b, x, y, _, hb, h => by injection h with h _; exact absurd h.symm (hb c (List.mem_cons_self ..))
  | c :: a, [], x, y, ha, _, h => by injection h with h _; exact absurd h (ha c (List.mem_cons_self ..))
  | c :: a, d :: b, x, y, ha, hb, h => by
    injection h with h1 h2
    obtain ⟨r1, r2⟩ := split_inj (fun e he => ha e (List.mem_cons_of_mem _ he)) (fun e he => hb e (List.mem_cons_of_mem _ he)) h2
    exact ⟨by rw [h1, r1], r2⟩
theorem no_split {a b x : List UInt8} (ha : ∀ c ∈ a, c ≠ 32) (h : a = b ++ 32 :: x) : False :=
  ha 32 (by rw [h]; simp) rfl
theorem join_inj : ∀ {l m : List (List UInt8)}, (∀ w ∈ l, WordOk w) → (∀ w ∈ m, WordOk w) → Lib.join l [32] = Lib.join m [32] → l = m
  | [], [], _, _, _ => rfl
  | [], [b], _, hm, h => by rw [join_one] at h; exact absurd h.symm (hm b (List.mem_cons_self ..)).1
  | [], b :: b2 :: m, _, _, h => by rw [join_two] at h; have := congrArg List.length h; simp [Lib.join] at this
  | [a], [], hl, _, h => by rw [join_one] at h; exact absurd h (hl a (List.mem_cons_self ..)).1
  | a :: a2 :: l, [], _, _, h => by rw [join_two] at h; have := congrArg List.length h; simp [Lib.join] at this
  | [a], [b], _, _, h => by rw [join_one, join_one] at h; rw [h]
  | [a], b :: b2 :: m, hl, _, h => by rw [join_one, join_two] at h; exact (no_split (hl a (List.mem_cons_self ..)).2 h).elim
  | a :: a2 :: l, [b], _, hm, h => by rw [join_one, join_two] at h; exact (no_split (hm b (List.mem_cons_self ..)).2 h.symm).elim
  | a :: a2 :: l, b :: b2 :: m, hl, hm, h => by
    rw [join_two, join_two] at h
    obtain ⟨h1, h2⟩ := split_inj (hl a (List.mem_cons_self ..)).2 (hm b (List.mem_cons_self ..)).2 h
    rw [h1, join_inj (fun w hw => hl w (List.mem_cons_of_mem _ hw)) (fun w hw => hm w (List.mem_cons_of_mem _ hw)) h2]
theorem keyV_inj {s t : List UInt8} : keyV s = keyV t ↔ wordsV s = wordsV t := ⟨fun h => join_inj (wordsV_ok s) (wordsV_ok t) h, fun h => by unfold keyV; rw [h]⟩
end Go.Proofs.Ytkodnagneblgaaa
/- Plain: decimal numbers as lists of bytes. -/
namespace Go.Proofs.Ytkodnagneblgaaa

/-- the string of a list of bytes -/
def bs (l : List UInt8) : ByteArray := ⟨l.toArray⟩
theorem bs_data (l : List UInt8) : (bs l).data.toList = l := rfl
theorem bs_size (l : List UInt8) : (bs l).size = l.length := by simp [bs, ByteArray.size]
theorem bs_of (s : ByteArray) : s = bs s.data.toList := rfl
theorem bs_inj {a b : List UInt8} (h : bs a = bs b) : a = b := by
  have := congrArg (fun s : ByteArray => s.data.toList) h
  simpa [bs] using this
theorem bs_toList (l : List UInt8) : (bs l).toList = l := by rw [ByteArray.toList_eq]; rfl
theorem bs_append (a b : List UInt8) : bs a ++ bs b = bs (a ++ b) := by
  apply ByteArray.ext
  simp [bs]
theorem bs_extract (l : List UInt8) (i j : Nat) : (bs l).extract i j = bs ((l.take j).drop i) := by
  apply ByteArray.ext
  have e : List.drop i (List.take (i + (j - i)) l) = List.drop i (List.take j l) := by
    by_cases h : i ≤ j
    · rw [show i + (j - i) = j by omega]
    · rw [List.drop_eq_nil_of_le (by rw [List.length_take]; omega), List.drop_eq_nil_of_le (by rw [List.length_take]; omega)]
  simp [bs, ByteArray.data_extract, List.take_drop, e]
theorem dropWhile_nil {p : UInt8 → Bool} : ∀ {l : List UInt8}, l.dropWhile p = [] ↔ ∀ x ∈ l, p x = true
  | [] => by simp
  | a :: l => by
    rw [List.dropWhile_cons]
    cases h : p a with
    | true => simp [h, dropWhile_nil (l := l)]
    | false => simp [h]

def isD (c : UInt8) : Bool := decide (48 ≤ c.toNat) && decide (c.toNat ≤ 57)
def allD (l : List UInt8) : Bool := l.all isD
def allZ (l : List UInt8) : Bool := l.all (· == 48)
def dNeg (l : List UInt8) : Bool := l.head? == some 45
def dRest (l : List UInt8) : List UInt8 := if dNeg l then l.tail else l
def dWhole (l : List UInt8) : List UInt8 := (dRest l).takeWhile (· != 46)
def dPoint (l : List UInt8) : Bool := decide ((dWhole l).length < (dRest l).length)
def dFrac (l : List UInt8) : List UInt8 := (dRest l).drop ((dWhole l).length + 1)
def okW (w : List UInt8) : Bool := decide (1 ≤ w.length) && decide (w.length ≤ 15) && allD w && !(decide (1 < w.length) && w.head? == some 48)
def okF (p : Bool) (f : List UInt8) : Bool := !(p && f.isEmpty) && decide (f.length ≤ 6) && allD f
def dOk (l : List UInt8) : Bool := okW (dWhole l) && okF (dPoint l) (dFrac l) && !(dNeg l && (allZ (dWhole l) && allZ (dFrac l)))
/-- the integer that digits stand for -/
def valD (l : List UInt8) : Nat := l.foldl (fun n c => 10 * n + (c.toNat - 48)) 0
/-- a number as a string -/
def textD (neg : Bool) (w f : List UInt8) : List UInt8 :=
  (if neg && !(allZ w && allZ f) then [45] else []) ++ w ++ (if f.isEmpty then [] else 46 :: f)
/-- digits without the zeros at the end -/
def trimZ (l : List UInt8) : List UInt8 := Lib.trimRightS l [48]

theorem trimZ_nil {l : List UInt8} : trimZ l = [] ↔ allZ l = true := by
  unfold trimZ Lib.trimRightS allZ
  rw [List.reverse_eq_nil_iff, dropWhile_nil, List.all_eq_true]
  simp
theorem trimS_nil {l cs : List UInt8} : Lib.trimS l cs = [] ↔ l.all (fun c => cs.contains c) = true := by
  unfold Lib.trimS Lib.trimLeftS Lib.trimRightS
  rw [dropWhile_nil, List.all_eq_true]
  constructor
  · intro h x hx
    refine Classical.byContradiction fun hc => ?_
    have : x ∈ (l.reverse.dropWhile (cs.contains ·)).reverse := by
      rw [List.mem_reverse]
      have hl : l.reverse = l.reverse.takeWhile (cs.contains ·) ++ l.reverse.dropWhile (cs.contains ·) := (List.takeWhile_append_dropWhile ..).symm
      have hx' : x ∈ l.reverse := List.mem_reverse.2 hx
      rw [hl, List.mem_append] at hx'
      rcases hx' with h1 | h1
      · exact absurd (List.all_eq_true.1 List.all_takeWhile x h1) hc
      · exact h1
    exact hc (h x this)
  · intro h x hx
    rw [List.mem_reverse] at hx
    exact h x (List.mem_reverse.1 ((List.dropWhile_sublist _).subset hx))
theorem digit_mem (c : UInt8) : [48, 49, 50, 51, 52, 53, 54, 55, 56, 57].contains c = isD c := by
  have h : ∀ n : Fin 256, [48, 49, 50, 51, 52, 53, 54, 55, 56, 57].contains (UInt8.ofNat n.1) = isD (UInt8.ofNat n.1) := by decide +kernel
  have := h ⟨c.toNat, c.toNat_lt⟩
  simpa using this

theorem fold_val (l : List UInt8) : ∀ acc : Nat, l.foldl (fun n c => 10 * n + (c.toNat - 48)) acc = acc * 10 ^ l.length + valD l := by
  unfold valD
  induction l with
  | nil => intro acc; simp
  | cons c l ih =>
    intro acc
    simp only [List.foldl_cons, List.length_cons]
    rw [ih, ih (10 * 0 + (c.toNat - 48)), Nat.pow_succ, Nat.mul_zero, Nat.zero_add, Nat.add_mul]
    rw [show 10 * acc * 10 ^ l.length = acc * (10 ^ l.length * 10) by rw [Nat.mul_comm 10 acc, Nat.mul_assoc, Nat.mul_comm 10]]
    omega
theorem valD_cons (c : UInt8) (l : List UInt8) : valD (c :: l) = (c.toNat - 48) * 10 ^ l.length + valD l := by
  unfold valD
  rw [List.foldl_cons, fold_val]
  simp [valD]
theorem valD_snoc (l : List UInt8) (c : UInt8) : valD (l ++ [c]) = 10 * valD l + (c.toNat - 48) := by
  simp [valD, List.foldl_append]
theorem valD_append (a b : List UInt8) : valD (a ++ b) = valD a * 10 ^ b.length + valD b := by
  unfold valD
  rw [List.foldl_append, fold_val]
  rfl
theorem isD_iff (c : UInt8) : isD c = true ↔ 48 ≤ c.toNat ∧ c.toNat ≤ 57 := by simp [isD]
theorem valD_lt (l : List UInt8) (h : allD l = true) : valD l < 10 ^ l.length := by
  induction l with
  | nil => simp [valD]
  | cons c l ih =>
    simp only [allD, List.all_cons, Bool.and_eq_true] at h
    have h1 := ih h.2
    have h2 := (isD_iff c).1 h.1
    rw [valD_cons, List.length_cons, Nat.pow_succ]
    have h3 : (c.toNat - 48) * 10 ^ l.length ≤ 9 * 10 ^ l.length := Nat.mul_le_mul_right _ (by omega)
    omega
theorem decFrom_val (l : List UInt8) : ∀ acc, allD l = true → Lib.decFrom acc l = some (l.foldl (fun n c => 10 * n + (c.toNat - 48)) acc) := by
  induction l with
  | nil => intro acc _; rfl
  | cons c l ih =>
    intro acc h
    simp only [allD, List.all_cons, Bool.and_eq_true] at h
    have h2 := (isD_iff c).1 h.1
    simp only [Lib.decFrom, Lib.digitVal, h2, and_self, if_true, List.foldl_cons]
    rw [ih _ h.2, Nat.mul_comm]
theorem atoi_val (l : List UInt8) (h : allD l = true) : Lib.atoi (48 :: l) = some (valD l : Int) := by
  simp only [Lib.atoi, Lib.decNat]
  have h1 : ((48 : UInt8) == 45) = false := by decide
  have h2 : ((48 : UInt8) == 43) = false := by decide
  rw [h1, h2]
  simp only [Bool.false_eq_true, if_false, List.isEmpty_cons]
  have : allD (48 :: l) = true := by
    have e : isD 48 = true := by decide
    unfold allD at h ⊢
    rw [List.all_cons, e, h]; rfl
  rw [decFrom_val _ _ this]
  simp [valD]
theorem allD_append (a b : List UInt8) : allD (a ++ b) = (allD a && allD b) := by simp [allD]
theorem allZ_append (a b : List UInt8) : allZ (a ++ b) = (allZ a && allZ b) := by simp [allZ]
theorem allZ_val {l : List UInt8} (h : allZ l = true) : valD l = 0 := by
  induction l with
  | nil => rfl
  | cons c l ih =>
    simp only [allZ, List.all_cons, Bool.and_eq_true, beq_iff_eq] at h
    rw [valD_cons, h.1, ih h.2]
    simp
theorem val_allZ {l : List UInt8} (hd : allD l = true) (h : valD l = 0) : allZ l = true := by
  induction l with
  | nil => rfl
  | cons c l ih =>
    simp only [allD, List.all_cons, Bool.and_eq_true] at hd
    rw [valD_cons] at h
    have h1 := (isD_iff c).1 hd.1
    have h2 : (c.toNat - 48) * 10 ^ l.length = 0 := by omega
    have h3 : c.toNat - 48 = 0 := by
      rcases Nat.mul_eq_zero.1 h2 with h | h
      · exact h
      · have := Nat.pos_of_ne_zero (n := 10 ^ l.length) (by simp); omega
    simp only [allZ, List.all_cons, Bool.and_eq_true, beq_iff_eq]
    exact ⟨UInt8.toNat_inj.1 (by show c.toNat = 48; omega), ih hd.2 (by omega)⟩
theorem ba_eq {a b : ByteArray} (h : a.data.toList = b.data.toList) : a = b := by
  apply ByteArray.ext
  exact Array.toList_inj.1 h
theorem bs_self (s : ByteArray) : bs s.data.toList = s := rfl
theorem app_data (a b : ByteArray) : (a ++ b).data.toList = a.data.toList ++ b.data.toList := by
  rw [ByteArray.data_append, Array.toList_append]
theorem ext_data (s : ByteArray) (i j : Nat) : (s.extract i j).data.toList = (s.data.toList.take j).drop i := by
  have := congrArg (fun s : ByteArray => s.data.toList) (bs_extract s.data.toList i j)
  exact this
theorem size_len (s : ByteArray) : s.data.toList.length = s.size := by rw [Array.length_toList]; rfl

theorem trimZ_snoc (l : List UInt8) (c : UInt8) : trimZ (l ++ [c]) = if c = 48 then trimZ l else l ++ [c] := by
  unfold trimZ Lib.trimRightS
  rw [List.reverse_append]
  simp only [List.reverse_cons, List.reverse_nil, List.nil_append, List.singleton_append, List.dropWhile_cons]
  have e : [(48 : UInt8)].contains c = (c == 48) := Lib.contains_one 48 c
  rw [e]
  by_cases h : c = 48
  · simp [h]
  · simp [h]
theorem trimZ_empty : trimZ [] = [] := rfl
theorem snoc_of {l : List UInt8} (h : 0 < l.length) : l = l.take (l.length - 1) ++ [l[l.length - 1]] := by
  have h1 := List.take_succ_eq_append_getElem (l := l) (i := l.length - 1) (by omega)
  rw [show l.length - 1 + 1 = l.length by omega, List.take_length] at h1
  exact h1
theorem trimZ_len (l : List UInt8) : (trimZ l).length ≤ l.length := by
  unfold trimZ Lib.trimRightS
  rw [List.length_reverse]
  have := (List.dropWhile_sublist (fun x => [48].contains x) (l := l.reverse)).length_le
  simpa using this
theorem trimZ_prefix (l : List UInt8) : ∃ k, l = trimZ l ++ List.replicate k 48 := by
  unfold trimZ Lib.trimRightS
  have h : l.reverse = l.reverse.takeWhile (fun x => [48].contains x) ++ l.reverse.dropWhile (fun x => [48].contains x) := (List.takeWhile_append_dropWhile ..).symm
  have h2 := congrArg List.reverse h
  rw [List.reverse_reverse, List.reverse_append] at h2
  refine ⟨(l.reverse.takeWhile (fun x => [48].contains x)).length, ?_⟩
  have h3 : (l.reverse.takeWhile (fun x => [48].contains x)).reverse = List.replicate (l.reverse.takeWhile (fun x => [48].contains x)).length 48 := by
    rw [List.eq_replicate_iff]
    refine ⟨by simp, fun b hb => ?_⟩
    rw [List.mem_reverse] at hb
    have := List.all_eq_true.1 List.all_takeWhile b hb
    simpa using this
  rw [h3] at h2
  exact h2
theorem trimZ_allD {l : List UInt8} (h : allD l = true) : allD (trimZ l) = true := by
  obtain ⟨k, hk⟩ := trimZ_prefix l
  rw [hk, allD_append] at h
  simp only [Bool.and_eq_true] at h
  exact h.1

/-- digits without needless zeros at the beginning, as the reference has it -/
def leadD : List UInt8 → List UInt8
  | [] => []
  | [c] => [c]
  | c :: d :: r => if c = 48 then leadD (d :: r) else c :: d :: r
/-- .. and as the program has it -/
def trimmedD (l : List UInt8) : List UInt8 := if (Lib.trimLeftS l [48]).isEmpty then [48] else Lib.trimLeftS l [48]
theorem lead_trimmed : ∀ {l : List UInt8}, l ≠ [] → leadD l = trimmedD l
  | [], h => absurd rfl h
  | [c], _ => by
    unfold leadD trimmedD Lib.trimLeftS
    by_cases h : c = 48
    · subst h; rfl
    · have e : [(48 : UInt8)].contains c = false := by rw [Lib.contains_one]; simpa using h
      simp [h]
  | c :: d :: r, _ => by
    by_cases h : c = 48
    · subst h
      have ih := lead_trimmed (l := d :: r) (by simp)
      have e : Lib.trimLeftS (48 :: d :: r) [48] = Lib.trimLeftS (d :: r) [48] := by simp [Lib.trimLeftS, List.dropWhile_cons]
      unfold trimmedD
      rw [e]
      simpa [leadD, trimmedD] using ih
    · unfold leadD trimmedD Lib.trimLeftS
      simp [h]
theorem lead_zeros (k : Nat) {l : List UInt8} (h : l ≠ []) : leadD (List.replicate k 48 ++ l) = leadD l := by
  induction k with
  | zero => rfl
  | succ k ih =>
    rw [List.replicate_succ, List.cons_append]
    cases hx : List.replicate k 48 ++ l with
    | nil => simp at hx; exact absurd hx.2 h
    | cons d r => rw [← ih, hx]; simp [leadD]
theorem leadD_len (l : List UInt8) : (leadD l).length ≤ l.length := by
  induction l with
  | nil => simp [leadD]
  | cons c l ih =>
    cases l with
    | nil => simp [leadD]
    | cons d r =>
      unfold leadD
      split
      · simp at ih ⊢; omega
      · simp
theorem repeat_zeros (n : Nat) : Lib.repeatL [48] n = List.replicate n 48 := by
  induction n with
  | zero => rfl
  | succ n ih => simp [Lib.repeatL, ih, List.replicate_succ]
end Go.Proofs.Ytkodnagneblgaaa
/- A region that draws its order: first reads and calls that make memory at most, then a chain of any operations: one walk, in the order of the text. -/
namespace Go.Proofs.Ytkodnagneblgaaa
open Go.RowKit

section
variable {P : Program} {ops : Array Oper} {md : Region.Mode} {C : World → Prop}

def wpAnyLQ (P : Program) (md : Region.Mode) (ops : Array Oper) (C : World → Prop) (n : Nat) (L : Array Bool → Act → Prop) : Nat → Array Bool → Act → Prop
  | 0, listed, a => L listed a
  | f + 1, listed, a =>
    Region.ready md ops listed ≠ [] ∧ ∀ i ∈ Region.ready md ops listed, i < n ∧ qOp P ops C i (wpAnyLQ P md ops C n L f (listed.setIfInBounds i true)) a

theorem wpAny_of_headQ {n g : Nat} {L : Array Bool → Act → Prop} {Q' : Exit → Act → World → Prop} (hL : ∀ listed a w, C w → L listed a → wpAny P md ops Q' g listed a w) :
    ∀ (f : Nat) (listed : Array Bool) (a : Act) (w : World), C w → wpAnyLQ P md ops C n L f listed a → wpAny P md ops Q' (f + g) listed a w
  | 0, listed, a, w, hC, h => by rw [Nat.zero_add]; exact hL _ _ _ hC h
  | f + 1, listed, a, w, hC, h => by
    rw [show f + 1 + g = (f + g) + 1 by omega]
    exact ⟨fun h0 => absurd h0 h.1, fun i hi => wpOp_of_qOp hC (fun a' w' hC' h' => wpAny_of_headQ hL f _ a' w' hC' h') (h.2 i hi).2⟩

theorem wpAnyLQ_first {n i : Nat} {oi : Oper} {v : Value} {L : Array Bool → Act → Prop} (hi : ops[i]? = some oi) (hsel : ∀ (j : Nat) (o : Oper) cs b, ops[j]? = some o → o.op ≠ .select cs b)
    (hs : Region.sinkB md ops n = true) (hc : Region.chainB md ops n = true) (hn : n < ops.size) (hin : i < n)
    (hdone : ∀ listed a, L listed a → ∀ j ∈ Region.ready md ops listed, n ≤ j) :
    ∀ (f : Nat) (listed : Array Bool) (a : Act), HeadInv md ops n listed →
      (∀ j oj, ops[j]? = some oj → j ≠ i → listed.getD j true = false → (∀ e ∈ oj.after, Region.binds md e = true → e.on ≠ i) → oi.apart ops oj = true) →
      i ∈ Region.ready md ops listed → YieldsIn P ops C oi v a →
      wpAnyLQ P md ops C n L f (listed.setIfInBounds i true) (a.put oi.dst v) → wpAnyLQ P md ops C n L (f + 1) listed a := by
  intro f
  induction f with
  | zero =>
    intro listed a inv _ hr hy H
    have hun := (mem_ready.1 hr).1
    refine ⟨fun h => (by rw [h] at hr; cases hr), fun j hj => ?_⟩
    have hjn : j < n := by
      rcases Nat.lt_or_ge j n with h | h
      · exact h
      · exact absurd hj (tail_waits hs hc hn inv _ i rfl hin hun j h)
    refine ⟨hjn, ?_⟩
    by_cases hji : j = i
    · subst hji; exact hy.qOp hi H
    · have := hdone _ _ H j (ready_mono hj hji)
      omega
  | succ f ih =>
    intro listed a inv hfree hr hy H
    have hun := (mem_ready.1 hr).1
    refine ⟨fun h => (by rw [h] at hr; cases hr), fun j hj => ?_⟩
    have hjn : j < n := by
      rcases Nat.lt_or_ge j n with h | h
      · exact h
      · exact absurd hj (tail_waits hs hc hn inv _ i rfl hin hun j h)
    refine ⟨hjn, ?_⟩
    by_cases hji : j = i
    · subst hji; exact hy.qOp hi H
    · have h1 := (H.2 j (ready_mono hj hji)).2
      obtain ⟨hjun, oj, hoj, hall⟩ := mem_ready.1 hj
      have hnot : ∀ e ∈ oj.after, Region.binds md e = true → e.on ≠ i := fun e he hb heq => by
        have h1 := hall e he hb
        rw [heq, getD_both hun] at h1
        cases h1
      have h2 := qOp_put hoj (hfree j oj hoj hji hjun hnot) (fun cs b => hsel i oi cs b hi) (fun cs b => hsel j oj cs b hoj) hy h1
      have hfree' : ∀ k ok, ops[k]? = some ok → k ≠ i → (listed.setIfInBounds j true).getD k true = false →
          (∀ e ∈ ok.after, Region.binds md e = true → e.on ≠ i) → oi.apart ops ok = true := fun k ok hk hki hun hno => by
        refine hfree k ok hk hki ?_ hno
        by_cases hjk : j = k
        · subst hjk; exact hjun
        · rw [getD_set_ne true hjk] at hun; exact hun
      refine qOp_mono (fun a' h3 => ih (listed.setIfInBounds j true) a' (inv.set hj hjn) hfree' (ready_mono hr (Ne.symm hji)) h3.1 ?_) h2
      rw [Array.setIfInBounds_comm _ _ hji]
      exact h3.2

theorem seqB_readyQ {g k : Nat} {listed : Array Bool} (h : Region.seqB md ops g k listed = true) : ∀ j ∈ Region.ready md ops listed, k ≤ j := seqB_ready h

theorem wpAnyLQ_lex {n g : Nat} {Lq : Act → Prop} (hsel : Region.noSelect ops = true) (hs : Region.sinkB md ops n = true) (hc : Region.chainB md ops n = true) (hn : n < ops.size) :
    ∀ (l : List Oper) (k : Nat) (listed : Array Bool) (a : Act), (∀ j, j < l.length → l[j]? = ops[k + j]?) → k + l.length = n → HeadInv md ops n listed →
    Region.lexHead md ops g l.length k listed = true → wpQuiet P ops C Lq l a →
    wpAnyLQ P md ops C n (fun listed' a' => Region.seqB md ops g n listed' = true ∧ Lq a') l.length listed a
  | [], k, listed, a, _, hk, _, hB, h => by
    have : k = n := by simpa using hk
    subst this
    exact ⟨by simpa [Region.lexHead] using hB, h⟩
  | o :: l, k, listed, a, hl, hk, inv, hB, h => by
    have h0 : ops[k]? = some o := by simpa using (hl 0 (by simp)).symm
    simp only [List.length_cons, Region.lexHead, Bool.and_eq_true] at hB
    obtain ⟨⟨hr, hf⟩, hB'⟩ := hB
    have hkn : k < n := by simp only [List.length_cons] at hk; omega
    have hr' : k ∈ Region.ready md ops listed := by simpa using hr
    have hst : qOp P ops C k (wpQuiet P ops C Lq l) a := by unfold qOp; simp only [h0]; exact h
    obtain ⟨v, hy, hK⟩ := yieldsIn_of_qOp h0 hst
    exact wpAnyLQ_first h0 (Region.noSelect_spec hsel) hs hc hn hkn (fun listed' a' hL => seqB_ready hL.1) l.length listed a inv (Region.free_spec h0 hf) hr' hy
      (wpAnyLQ_lex hsel hs hc hn l (k + 1) _ _ (fun j hj => by have := hl (j + 1) (by simp; omega); simpa [Nat.add_assoc, Nat.add_comm 1 j] using this) (by simp only [List.length_cons] at hk; omega) (inv.set hr' hkn) hB' hK)

theorem wp_region_quiet_tail {id : Nat} {Q : Exit → Act → World → Prop} {a : Act} {w : World} {l : List Oper} (n : Nat) (hm : P.follows .mixedOrders = true) (hB : Region.lexTailB .any l.toArray n = true) (hC : C { w with drawn := w.drawn + 1 })
    (h : wpQuiet P l.toArray C (fun a' => ∀ w', C w' → wpList P l.toArray Q (l.drop n) a' w') (l.take n) a) : (Code.region id l.toArray true).wp P Q a w := by
  simp only [Region.lexTailB, Bool.and_eq_true, decide_eq_true_eq] at hB
  obtain ⟨⟨⟨⟨hsel, hn⟩, hs⟩, hc⟩, hlex⟩ := hB
  have hn' : n < l.length := by simpa using hn
  have htl : (l.take n).length = n := by simp; omega
  have hdl : (l.drop n).length = l.toArray.size - n := by simp
  have inv0 : HeadInv .any l.toArray n (Array.replicate l.toArray.size false) :=
    ⟨by simp, fun j oj _ hl => (by rw [getD_replicate_false] at hl; cases hl), fun t _ ht => getD_in (by simpa using ht) (getD_replicate_false _ _)⟩
  have H := wpAnyLQ_lex (C := C) (md := .any) (g := l.toArray.size - n) hsel hs hc hn (l.take n) 0 _ a (fun j hj => by
    have hj' : j < n := by rw [htl] at hj; exact hj
    simp [hj']) (by simpa using htl) inv0 (by rw [htl]; exact hlex) h
  refine wp_region_any hm ?_
  have := wpAny_of_headQ (Q' := Q) (g := l.toArray.size - n) (fun listed a' w' hCw hL => by
    have := wpAny_of_seq (md := .any) (Q' := Q) (l.drop n) n listed a' w' (fun j => by simp [List.getElem?_drop]) (by rw [hdl]; exact hL.1) (hL.2 w' hCw)
    rwa [hdl] at this) _ _ _ _ hC H
  rw [htl, show n + (l.toArray.size - n) = l.toArray.size by omega] at this
  exact this

/-- the same, where the calls make memory at most -/
theorem wp_region_ext_tail {id : Nat} {Q : Exit → Act → World → Prop} {a : Act} {w : World} {l : List Oper} (n : Nat) (hm : P.follows .mixedOrders = true) (hB : Region.lexTailB .any l.toArray n = true)
    (h : wpQuiet P l.toArray (fun w' => ∃ e : Ext w, w' = e.1) (fun a' => ∀ w', (∃ e : Ext w, w' = e.1) → wpList P l.toArray Q (l.drop n) a' w') (l.take n) a) : (Code.region id l.toArray true).wp P Q a w :=
  wp_region_quiet_tail (C := fun w' => ∃ e : Ext w, w' = e.1) n hm hB ⟨⟨_, (Below.refl _ w).drew⟩, rfl⟩ h
end
end Go.Proofs.Ytkodnagneblgaaa
