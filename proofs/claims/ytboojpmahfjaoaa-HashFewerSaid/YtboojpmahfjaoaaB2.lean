/- The keys that were seen, in a map; which blocks may change. -/
import Derived.Test.YtboojpmahfjaoaaA11
import Derived.Maps.Own
import Derived.Maps.OwnOps
import Derived.Maps.Views
namespace Go.Proofs.Ytboojpmahfjaoaa
open Go.RowKit Go.Maps

theorem ba_ext {a b : ByteArray} (h : a.data.toList = b.data.toList) : a = b := by
  cases a; cases b; simpa [Array.toList_inj] using h
/-- is s one of ks -/
def memB (s : ByteArray) (ks : List ByteArray) : Bool := ks.any fun x => decide (x = s)
theorem memB_iff (s : ByteArray) (ks : List ByteArray) : memB s ks = true ↔ s ∈ ks := by
  simp [memB, List.any_eq_true]
theorem bool_inv {P : Program} {e : TypeId} (he : P.underlying e = some .bool) {v : Value} {x : Bool} {ps : List MemPlace} (h : plainElem (H := Unit) P e v = some (.lit (.bool x), ps)) : v = .bool x := by
  unfold plainElem at h
  rw [he] at h
  cases v <;> simp at h
  rw [h.1]

/-- w' is w with new blocks, and with writes to the blocks bs alone -/
structure Chg (w w' : World) (bs : List Nat) : Prop where
  os : w'.os = w.os
  tape : w'.tape = w.tape
  output : w'.output = w.output
  size : w.heap.size ≤ w'.heap.size
  block : ∀ k, k < w.heap.size → k ∉ bs → w'.heap[k]? = w.heap[k]?

theorem Chg.refl (w : World) (bs : List Nat) : Chg w w bs := ⟨rfl, rfl, rfl, Nat.le_refl _, fun _ _ _ => rfl⟩
theorem Chg.trans {a b c : World} {bs : List Nat} (h : Chg a b bs) (k : Chg b c bs) : Chg a c bs :=
  ⟨k.os.trans h.os, k.tape.trans h.tape, k.output.trans h.output, Nat.le_trans h.size k.size, fun i hi hn => (k.block i (Nat.lt_of_lt_of_le hi h.size) hn).trans (h.block i hi hn)⟩
theorem Chg.below {a b c : World} {bs : List Nat} (h : Chg a b bs) (k : Below b.heap.size b c) : Chg a c bs :=
  h.trans ⟨k.os, k.tape, k.output, k.size, fun i hi _ => k.block i hi⟩
/-- writes to a block that is new, or one of bs -/
theorem Chg.grown {a b c : World} {bs : List Nat} {row : Option Nat} (h : Chg a b bs) (k : b.grownBy c row) (hr : ∀ x, row = some x → x ∈ bs ∨ a.heap.size ≤ x) : Chg a c bs :=
  ⟨k.os.trans h.os, k.tape.trans h.tape, k.output.trans h.output, Nat.le_trans h.size k.size, fun i hi hn => (k.block i (Nat.lt_of_lt_of_le hi h.size) (fun e => by
    rcases hr i e.symm with h1 | h1
    · exact hn h1
    · omega)).trans (h.block i hi hn)⟩
theorem Chg.drewN {a b : World} {bs : List Nat} (h : Chg a b bs) (n : Nat) : Chg a (b.drewN n) bs := ⟨h.os, h.tape, h.output, h.size, h.block⟩
theorem Chg.alloc {a b : World} {bs : List Nat} (h : Chg a b bs) (o : Obj) : Chg a (b.alloc o) bs := h.below ((Below.refl _ _).alloc (Nat.le_refl _) _)
theorem Chg.setCell {a b : World} {bs : List Nat} (h : Chg a b bs) (g i : Nat) (u : Value) (hg : g ∈ bs ∨ a.heap.size ≤ g) : Chg a (b.setCell ⟨g, i, none⟩ u) bs :=
  ⟨h.os, h.tape, h.output, by simpa [World.setCell] using h.size, fun k hk hne => (Below.heap_setCell b _ _ k (fun e => by
    simp only at e
    subst e
    rcases hg with h1 | h1
    · exact hne h1
    · omega)).trans (h.block k hk hne)⟩
theorem Chg.cell {a b : World} {bs : List Nat} (h : Chg a b bs) {g i : Nat} (hg : g < a.heap.size) (hn : g ∉ bs) : b.cell? ⟨g, i, none⟩ = a.cell? ⟨g, i, none⟩ := World.cell?_of_block (h.block g hg hn)
theorem Chg.frozen {a b : World} {bs : List Nat} (h : Chg a b bs) {g i : Nat} (hg : g < a.heap.size) (hn : g ∉ bs) : b.frozen? ⟨g, i, none⟩ = a.frozen? ⟨g, i, none⟩ := World.frozen?_of_block (h.block g hg hn)
theorem Chg.toBelow {a b : World} {bs : List Nat} {B : Nat} (h : Chg a b bs) (hB : B ≤ a.heap.size) (hbs : ∀ x ∈ bs, B ≤ x) : Below B a b :=
  ⟨h.os, h.tape, h.output, h.size, fun k hk => h.block k (by omega) (fun hm => by have := hbs k hm; omega)⟩
theorem Chg.own {a b : World} {bs : List Nat} {base : Nat} {E : TypeId} {v : Value} {n : Nat} {xs : List Value} (h : Chg a b bs) (ho : a.ownsRow base E 1 v n xs) (hn : ∀ k, v.ownBlock = some k → k ∉ bs) : b.ownsRow base E 1 v n xs := by
  refine ⟨ho.1, ?_⟩
  rcases ho.2 with h2 | ⟨g, cap, cur, h1, h2, h3, h4⟩
  · exact .inl h2
  · have hg : g < a.heap.size := by
      rcases Nat.lt_or_ge g a.heap.size with h' | h'
      · exact h'
      · simp [Array.getElem?_eq_none h'] at h3
    exact .inr ⟨g, cap, cur, h1, h2, (h.block g hg (hn g (by rw [h1]; rfl))).trans h3, h4⟩

/-- block M is a map that says which strings were seen -/
def SeenAt (w : World) (M n : Nat) (ks : List ByteArray) : Prop :=
  ∃ D : DataW Unit, w.ownsMap Try.prog 9 (plainElem Try.prog 4) M n D ∧ Maps.IsMap D ∧ ∀ s : ByteArray, s.size ≤ maxLen → D.atKey (.string s.data.toList) (.lit (.bool false)) = .lit (.bool (memB s ks))

theorem SeenAt.made (w : World) : SeenAt (w.alloc (.map #[] 0)) w.heap.size 0 [] :=
  ⟨.map [], World.ownsMap_made _ _ _ _, Maps.isMap_empty, fun s _ => by simp [DataW.atKey, memB]⟩

theorem SeenAt.lt {w : World} {M n : Nat} {ks : List ByteArray} (h : SeenAt w M n ks) : M < w.heap.size := by
  obtain ⟨D, h, _⟩ := h; exact h.lt

theorem SeenAt.same {w w' : World} {M n : Nat} {ks : List ByteArray} (h : SeenAt w M n ks) (hb : w'.heap[M]? = w.heap[M]?) : SeenAt w' M n ks := by
  obtain ⟨D, ⟨es, clock, h1, h2⟩, h3⟩ := h
  exact ⟨D, ⟨es, clock, hb.trans h1, h2⟩, h3⟩

theorem SeenAt.look {w : World} {M n : Nat} {ks : List ByteArray} (h : SeenAt w M n ks) (s : ByteArray) (hs : s.size ≤ maxLen) :
    (Instr.lookup 46 (.map (some M)) (.string s) false).run Try.prog w = .ok (.bool (memB s ks)) w := by
  obtain ⟨D, h1, h2, h3⟩ := h
  obtain ⟨v, ps, hrun, hv⟩ := h1.lookup (string_keyed Try.underlying9) Try.underlying46 (Try.zeroValue4 w) (plainElem_bool Try.underlying4 false) (WideMaps.keyOf_string_mk Try.underlying9 hs)
  rw [h3 s hs] at hv
  rw [hrun, bool_inv Try.underlying4 hv]

theorem SeenAt.put {w : World} {M n : Nat} {ks : List ByteArray} (h : SeenAt w M n ks) (s : ByteArray) (hs : s.size ≤ maxLen) (hn : n < maxLen) :
    ∃ w', (Instr.mapUpdate 46 (.map (some M)) (.string s) (.bool true)).run Try.prog w = .ok () w' ∧ SeenAt w' M (n + 1) (ks ++ [s]) ∧ w.grownBy w' (some M) := by
  obtain ⟨D, h1, h2, h3⟩ := h
  obtain ⟨w', hrun, hown, hg⟩ := h1.update (string_keyed Try.underlying9) Try.underlying46 hn (WideMaps.keyOf_string_mk Try.underlying9 hs) (plainElem_bool Try.underlying4 true)
  refine ⟨w', hrun, ⟨_, hown, h2.put _ _, fun s' hs' => ?_⟩, hg⟩
  by_cases e : s' = s
  · subst e
    rw [Maps.atKey_put_same h2 ((string_keyed Try.underlying9).key (WideMaps.keyOf_string_mk Try.underlying9 hs))]
    simp [memB]
  · rw [Maps.atKey_put_other (by intro e'; injection e' with e'; exact e (ba_ext e')), h3 s' hs']
    simp [memB, Ne.symm e]
end Go.Proofs.Ytboojpmahfjaoaa
