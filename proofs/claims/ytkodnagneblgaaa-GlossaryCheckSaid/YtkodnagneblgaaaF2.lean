/- Sets of strings and of pairs of strings, and counts of strings, in maps of the call's own. -/
import Derived.Test.YtkodnagneblgaaaF1
namespace Go.Proofs.Ytkodnagneblgaaa
open Go.RowKit Go.Maps Go.Sort
theorem boolInv {P : Program} {e : TypeId} (he : P.underlying e = some .bool) {v : Value} {x : Bool} {ps : List MemPlace} (h : plainElem (H := Unit) P e v = some (.lit (.bool x), ps)) : v = .bool x := by
  unfold plainElem at h
  rw [he] at h
  cases v <;> simp at h
  rw [h.1]
theorem intInv {P : Program} {e : TypeId} {q : IntKind} (he : P.underlying e = some (.int q)) {v : Value} {x : Int} {ps : List MemPlace} (h : plainElem (H := Unit) P e v = some (.lit (.int q x), ps)) : v = .int q x := by
  obtain ⟨a, rfl, h2, _⟩ := plainElem_int_inv he h
  simp only [Prod.mk.injEq, DataW.lit.injEq, Lit.int.injEq, true_and] at h2
  rw [h2.1]
/-- is a pair in a list -/
def memP (a b : ByteArray) (ks : List (ByteArray × ByteArray)) : Bool := ks.any fun x => decide (x.1 = a ∧ x.2 = b)
def memS (s : ByteArray) (ks : List ByteArray) : Bool := ks.any fun x => decide (x = s)
theorem memP_snoc (a b c d : ByteArray) (ks : List (ByteArray × ByteArray)) : memP a b (ks ++ [(c, d)]) = (memP a b ks || decide (c = a ∧ d = b)) := by simp [memP]
theorem memS_snoc (s c : ByteArray) (ks : List ByteArray) : memS s (ks ++ [c]) = (memS s ks || decide (c = s)) := by simp [memS]
theorem memS_iff {s : ByteArray} {ks : List ByteArray} : memS s ks = true ↔ s ∈ ks := by simp [memS]
/-- a set of pairs -/
def SeenP (w : World) (M n : Nat) (ks : List (ByteArray × ByteArray)) : Prop :=
  ∃ D : DataW Unit, w.ownsMap Try.prog 65 (plainElem Try.prog 4) M n D ∧ IsMap D ∧ ∀ (a b : ByteArray), a.size ≤ maxLen → b.size ≤ maxLen → ∀ kl, keyOf Try.prog 65 (.agg #[.string a, .string b]) = some kl → D.atKey kl (.lit (.bool false)) = .lit (.bool (memP a b ks))
theorem SeenP.made (w : World) : SeenP (w.alloc (.map #[] 0)) w.heap.size 0 [] :=
  ⟨.map [], World.ownsMap_made _ _ _ _, isMap_empty, fun a b _ _ kl _ => by simp [DataW.atKey, memP]⟩
theorem SeenP.lt {w : World} {M n : Nat} {ks : List (ByteArray × ByteArray)} (h : SeenP w M n ks) : M < w.heap.size := by obtain ⟨D, h, _⟩ := h; exact h.lt
theorem SeenP.same {w w' : World} {M n : Nat} {ks : List (ByteArray × ByteArray)} (h : SeenP w M n ks) (hb : w'.heap[M]? = w.heap[M]?) : SeenP w' M n ks := by
  obtain ⟨D, ⟨es, clock, h1, h2⟩, h3⟩ := h
  exact ⟨D, ⟨es, clock, hb.trans h1, h2⟩, h3⟩
theorem SeenP.below {w w' : World} {M n : Nat} {ks : List (ByteArray × ByteArray)} (h : SeenP w M n ks) (hb : Below w.heap.size w w') : SeenP w' M n ks := h.same (hb.block _ h.lt)
theorem SeenP.look {w : World} {M n : Nat} {ks : List (ByteArray × ByteArray)} (h : SeenP w M n ks) (a b : ByteArray) (ha : a.size ≤ maxLen) (hb : b.size ≤ maxLen) :
    (Instr.lookup 64 (.map (some M)) (.agg #[.string a, .string b]) false).run Try.prog w = .ok (.bool (memP a b ks)) w := by
  obtain ⟨D, h1, h2, h3⟩ := h
  obtain ⟨v, ps, hrun, hv⟩ := h1.lookup lawPair Try.underlying64 (Try.zeroValue4 w) (plainElem_bool Try.underlying4 false) (keyPair ha hb)
  rw [h3 a b ha hb _ (keyPair ha hb)] at hv
  rw [hrun, boolInv Try.underlying4 hv]
theorem SeenP.put {w : World} {M n : Nat} {ks : List (ByteArray × ByteArray)} (h : SeenP w M n ks) (a b : ByteArray) (ha : a.size ≤ maxLen) (hb : b.size ≤ maxLen) (hn : n < maxLen) :
    ∃ w', (Instr.mapUpdate 64 (.map (some M)) (.agg #[.string a, .string b]) (.bool true)).run Try.prog w = .ok () w' ∧ SeenP w' M (n + 1) (ks ++ [(a, b)]) ∧ w.grownBy w' (some M) := by
  obtain ⟨D, h1, h2, h3⟩ := h
  obtain ⟨w', hrun, hown, hg⟩ := h1.update lawPair Try.underlying64 hn (keyPair ha hb) (plainElem_bool Try.underlying4 true)
  refine ⟨w', hrun, ⟨_, hown, h2.put _ _, fun a' b' ha' hb' kl hk => ?_⟩, hg⟩
  by_cases e : (a', b') = (a, b)
  · obtain ⟨rfl, rfl⟩ := Prod.mk.inj e
    have hkl := Option.some.inj (hk.symm.trans (keyPair ha hb))
    subst hkl
    rw [atKey_put_same h2 (lawPair.key (keyPair ha hb)), memP_snoc, decide_eq_true ⟨rfl, rfl⟩, Bool.or_true]
  · rw [atKey_put_other (fun e' => by
      rw [e'] at hk
      have := lawPair.inj hk (keyPair ha hb)
      simp only [Value.agg.injEq, Array.mk.injEq, List.cons.injEq, Value.string.injEq, and_true] at this
      exact e (Prod.ext this.1 this.2)), h3 a' b' ha' hb' kl hk, memP_snoc, decide_eq_false (fun h => e (Prod.ext h.1.symm h.2.symm)), Bool.or_false]
/-- a set of strings -/
def SeenS (w : World) (M n : Nat) (ks : List ByteArray) : Prop :=
  ∃ D : DataW Unit, w.ownsMap Try.prog 9 (plainElem Try.prog 4) M n D ∧ (∀ s : ByteArray, s.size ≤ maxLen → D.atKey (.string s.data.toList) (.lit (.bool false)) = .lit (.bool (memS s ks))) ∧ (0 < Maps.size D ↔ ks ≠ [])
theorem SeenS.made (w : World) : SeenS (w.alloc (.map #[] 0)) w.heap.size 0 [] :=
  ⟨.map [], World.ownsMap_made _ _ _ _, fun s _ => by simp [DataW.atKey, memS], by simp [Maps.size]⟩
theorem SeenS.lt {w : World} {M n : Nat} {ks : List ByteArray} (h : SeenS w M n ks) : M < w.heap.size := by obtain ⟨D, h, _⟩ := h; exact h.lt
theorem SeenS.same {w w' : World} {M n : Nat} {ks : List ByteArray} (h : SeenS w M n ks) (hb : w'.heap[M]? = w.heap[M]?) : SeenS w' M n ks := by
  obtain ⟨D, ⟨es, clock, h1, h2⟩, h3⟩ := h
  exact ⟨D, ⟨es, clock, hb.trans h1, h2⟩, h3⟩
theorem SeenS.below {w w' : World} {M n : Nat} {ks : List ByteArray} (h : SeenS w M n ks) (hb : Below w.heap.size w w') : SeenS w' M n ks := h.same (hb.block _ h.lt)
theorem SeenS.look {w : World} {M n : Nat} {ks : List ByteArray} (h : SeenS w M n ks) (s : ByteArray) (hs : s.size ≤ maxLen) :
    (Instr.lookup 71 (.map (some M)) (.string s) false).run Try.prog w = .ok (.bool (memS s ks)) w := by
  obtain ⟨D, h1, h3, _⟩ := h
  obtain ⟨v, ps, hrun, hv⟩ := h1.lookup lawStr Try.underlying71 (Try.zeroValue4 w) (plainElem_bool Try.underlying4 false) (keyStr hs)
  rw [h3 s hs] at hv
  rw [hrun, boolInv Try.underlying4 hv]
theorem SeenS.len {w : World} {M n : Nat} {ks : List ByteArray} (h : SeenS w M n ks) : ∃ m : Nat, (0 < m ↔ ks ≠ []) ∧ ∀ ty, (Builtin.len_ #[71] ty #[.map (some M)]).run Try.prog w = .ok (.int .i64 (m : Int)) w := by
  obtain ⟨D, h1, _, h4⟩ := h
  exact ⟨Maps.size D, h4, fun ty => h1.len Try.underlying71 ty⟩
theorem SeenS.put {w : World} {M n : Nat} {ks : List ByteArray} (h : SeenS w M n ks) (s : ByteArray) (hs : s.size ≤ maxLen) (hn : n < maxLen) :
    ∃ w', (Instr.mapUpdate 71 (.map (some M)) (.string s) (.bool true)).run Try.prog w = .ok () w' ∧ SeenS w' M (n + 1) (ks ++ [s]) ∧ w.grownBy w' (some M) := by
  obtain ⟨D, h1, h3, h4⟩ := h
  have ht := h1.tidy lawStr
  obtain ⟨w', hrun, hown, hg⟩ := h1.update lawStr Try.underlying71 hn (keyStr hs) (plainElem_bool Try.underlying4 true)
  refine ⟨w', hrun, ⟨_, hown, fun s' hs' => ?_, ?_⟩, hg⟩
  · by_cases e : s' = s
    · subst e
      rw [atKey_put_same ht.isMap (lawStr.key (keyStr hs)), memS_snoc, decide_eq_true rfl, Bool.or_true]
    · rw [atKey_put_other (by intro e'; injection e' with e'; exact e (ByteArray.ext (Array.ext' e'))), h3 s' hs', memS_snoc, decide_eq_false (fun h => e h.symm), Bool.or_false]
  · refine ⟨fun _ => by simp, fun _ => ?_⟩
    rw [size_put ht]
    cases hh : has D (.string s.data.toList) with
    | false => simp
    | true =>
      simp only [if_true]
      obtain ⟨es, rfl, _⟩ := ht
      cases es with
      | nil => simp [has] at hh
      | cons a b => simp [Maps.size]
/-- counts of strings -/
def CntAt (w : World) (M n : Nat) (cnt : ByteArray → Nat) : Prop :=
  ∃ D : DataW Unit, w.ownsMap Try.prog 9 (plainElem Try.prog 3) M n D ∧ IsMap D ∧ ∀ s : ByteArray, s.size ≤ maxLen → D.atKey (.string s.data.toList) (.lit (.int .i64 0)) = .lit (.int .i64 (cnt s : Int))
theorem CntAt.made (w : World) : CntAt (w.alloc (.map #[] 0)) w.heap.size 0 (fun _ => 0) :=
  ⟨.map [], World.ownsMap_made _ _ _ _, isMap_empty, fun s _ => by simp [DataW.atKey]⟩
theorem CntAt.lt {w : World} {M n : Nat} {cnt : ByteArray → Nat} (h : CntAt w M n cnt) : M < w.heap.size := by obtain ⟨D, h, _⟩ := h; exact h.lt
theorem CntAt.same {w w' : World} {M n : Nat} {cnt : ByteArray → Nat} (h : CntAt w M n cnt) (hb : w'.heap[M]? = w.heap[M]?) : CntAt w' M n cnt := by
  obtain ⟨D, ⟨es, clock, h1, h2⟩, h3⟩ := h
  exact ⟨D, ⟨es, clock, hb.trans h1, h2⟩, h3⟩
theorem CntAt.below {w w' : World} {M n : Nat} {cnt : ByteArray → Nat} (h : CntAt w M n cnt) (hb : Below w.heap.size w w') : CntAt w' M n cnt := h.same (hb.block _ h.lt)
theorem CntAt.look {w : World} {M n : Nat} {cnt : ByteArray → Nat} (h : CntAt w M n cnt) (s : ByteArray) (hs : s.size ≤ maxLen) :
    (Instr.lookup 54 (.map (some M)) (.string s) false).run Try.prog w = .ok (.int .i64 (cnt s : Int)) w := by
  obtain ⟨D, h1, h2, h3⟩ := h
  obtain ⟨v, ps, hrun, hv⟩ := h1.lookup lawStr Try.underlying54 (Try.zeroValue3 w) (plainElem_int Try.underlying3 (by decide)) (keyStr hs)
  rw [h3 s hs] at hv
  rw [hrun, intInv Try.underlying3 hv]
/-- another count at one string -/
def updN (cnt : ByteArray → Nat) (s : ByteArray) (c : Nat) : ByteArray → Nat := fun t => if t = s then c else cnt t
theorem CntAt.put {w : World} {M n : Nat} {cnt : ByteArray → Nat} (h : CntAt w M n cnt) (s : ByteArray) (hs : s.size ≤ maxLen) (hn : n < maxLen) (c : Nat) (hc : c ≤ 9223372036854775807) :
    ∃ w', (Instr.mapUpdate 54 (.map (some M)) (.string s) (.int .i64 (c : Int))).run Try.prog w = .ok () w' ∧ CntAt w' M (n + 1) (updN cnt s c) ∧ w.grownBy w' (some M) := by
  obtain ⟨D, h1, h2, h3⟩ := h
  obtain ⟨w', hrun, hown, hg⟩ := h1.update lawStr Try.underlying54 hn (keyStr hs) (plainElem_int (a := (c : Int)) Try.underlying3 (WalkArith.wf_i64 (by omega)))
  refine ⟨w', hrun, ⟨_, hown, h2.put _ _, fun s' hs' => ?_⟩, hg⟩
  show _ = DataW.lit (Lit.int IntKind.i64 ((if s' = s then c else cnt s' : Nat) : Int))
  by_cases e : s' = s
  · subst e
    rw [atKey_put_same h2 (lawStr.key (keyStr hs)), if_pos rfl]
  · rw [atKey_put_other (by intro e'; injection e' with e'; exact e (ByteArray.ext (Array.ext' e'))), h3 s' hs', if_neg e]
end Go.Proofs.Ytkodnagneblgaaa
