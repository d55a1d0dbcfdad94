/- A map of slices of the call's own: the headers as data; what each of them owns. -/
import Derived.Test.YtkodnagneblgaaaC3
import Derived.Maps.RangeWalk
import Derived.Maps.OwnSet
import Derived.Maps.AppendAt
namespace Go.Proofs.Ytkodnagneblgaaa
open Go.RowKit Go.Maps

/-- a slice's header, as a datum -/
def hdR : Value → Option (DataW Unit × List MemPlace)
  | .slice none 0 0 => some (.nil, [])
  | .slice (some ⟨b, o, none⟩) n c => some (.agg [.lit (.int .i64 (b : Int)), .lit (.int .i64 (o : Int)), .lit (.int .i64 (n : Int)), .lit (.int .i64 (c : Int))], [])
  | _ => none
theorem hdR_inv {v : Value} {d : DataW Unit} {p : List MemPlace} (h : hdR v = some (d, p)) : (v = .slice none 0 0 ∧ d = .nil) ∨ ∃ b o n c, v = .slice (some ⟨b, o, none⟩) n c ∧ d = .agg [.lit (.int .i64 (b : Int)), .lit (.int .i64 (o : Int)), .lit (.int .i64 (n : Int)), .lit (.int .i64 (c : Int))] := by
  unfold hdR at h
  split at h
  · cases h; exact .inl ⟨rfl, rfl⟩
  · cases h; exact .inr ⟨_, _, _, _, rfl, rfl⟩
  · cases h
theorem hdR_inj {v v' : Value} {d : DataW Unit} {p p' : List MemPlace} (h : hdR v = some (d, p)) (h' : hdR v' = some (d, p')) : v = v' := by
  rcases hdR_inv h with ⟨rfl, rfl⟩ | ⟨b, o, n, c, rfl, rfl⟩ <;> rcases hdR_inv h' with ⟨rfl, e⟩ | ⟨b', o', n', c', rfl, e⟩
  · rfl
  · cases e
  · cases e
  · simp only [DataW.agg.injEq, List.cons.injEq, DataW.lit.injEq, Lit.int.injEq, Int.natCast_inj, true_and, and_true] at e
    obtain ⟨rfl, rfl, rfl, rfl⟩ := e
    rfl
theorem hdR_own {w : World} {base : Nat} {E : TypeId} {sz : Nat} {v : Value} {n : Nat} {xs : List Value} (h : w.ownsRow base E sz v n xs) : ∃ d, hdR v = some (d, []) := by
  rcases h.2 with ⟨rfl, _⟩ | ⟨g, cap, cur, rfl, _⟩
  · exact ⟨_, rfl⟩
  · exact ⟨_, rfl⟩
theorem hdR_places {v : Value} {y : DataW Unit × List MemPlace} (h : hdR v = some y) : y = (y.1, []) := by
  unfold hdR at h
  split at h
  · cases h; rfl
  · cases h; rfl
  · cases h
theorem lawStr : Keyed Try.prog 9 := string_keyed Try.underlying9
/-- block M is a map of slices: at each key the header -/
def GM (w : World) (M n : Nat) (hd : ByteArray → Value) : Prop :=
  ∃ D : DataW Unit, w.ownsMap Try.prog 9 hdR M n D ∧ IsMap D ∧ (∀ s : ByteArray, s.size ≤ maxLen → hdR (hd s) = some (D.atKey (.string s.data.toList) .nil, [])) ∧ ∀ s : ByteArray, s.size ≤ maxLen → has D (.string s.data.toList) = true → hd s ≠ .slice none 0 0
theorem GM.made (w : World) : GM (w.alloc (.map #[] 0)) w.heap.size 0 (fun _ => .slice none 0 0) := ⟨.map [], World.ownsMap_made _ _ _ _, isMap_empty, fun _ _ => rfl, fun _ _ h => (by cases h)⟩
theorem GM.lt {w : World} {M n : Nat} {hd : ByteArray → Value} (h : GM w M n hd) : M < w.heap.size := by obtain ⟨D, h, _⟩ := h; exact h.lt
theorem GM.same {w w' : World} {M n : Nat} {hd : ByteArray → Value} (h : GM w M n hd) (hb : w'.heap[M]? = w.heap[M]?) : GM w' M n hd := by
  obtain ⟨D, ⟨es, clock, h1, h2⟩, h3⟩ := h
  exact ⟨D, ⟨es, clock, hb.trans h1, h2⟩, h3⟩
/-- the map's block is no row -/
theorem GM.apart {w : World} {M n : Nat} {hd : ByteArray → Value} (h : GM w M n hd) {base : Nat} {E : TypeId} {sz : Nat} {v : Value} {k : Nat} {xs : List Value} (hr : w.ownsRow base E sz v k xs) : some M ≠ v.ownBlock := by
  obtain ⟨D, ⟨es, clock, h1, _⟩, _⟩ := h
  rcases hr.2 with ⟨rfl, _⟩ | ⟨g, cap, cur, rfl, _, h3, _⟩
  · intro e; cases e
  · intro e
    injection e with e
    have e : M = g := e
    subst e
    rw [h1] at h3
    cases h3
theorem GM.kept {w w' : World} {M n : Nat} {hd : ByteArray → Value} (h : GM w M n hd) {row : Option Nat} (hg : w.grownBy w' row) (hne : some M ≠ row) : GM w' M n hd := h.same (hg.block M h.lt hne)
theorem keyStr {s : ByteArray} (hs : s.size ≤ maxLen) : keyOf Try.prog 9 (.string s) = some (.string s.data.toList) := WideMaps.keyOf_string_mk Try.underlying9 hs
theorem GM.look {w : World} {M n : Nat} {hd : ByteArray → Value} (h : GM w M n hd) (s : ByteArray) (hs : s.size ≤ maxLen) :
    (Instr.lookup 78 (.map (some M)) (.string s) false).run Try.prog w = .ok (hd s) w := by
  obtain ⟨D, h1, h2, h3, _⟩ := h
  obtain ⟨v, ps, hrun, hv⟩ := h1.lookup lawStr Try.underlying78 (Try.zeroValue93 w) (zd := .nil) (zp := []) rfl (keyStr hs)
  rw [hrun, hdR_inj hv (h3 s hs)]
/-- another header at one key -/
def updH (hd : ByteArray → Value) (s : ByteArray) (v : Value) : ByteArray → Value := fun t => if t = s then v else hd t
theorem GM.put {w : World} {M n : Nat} {hd : ByteArray → Value} (h : GM w M n hd) (s : ByteArray) (hs : s.size ≤ maxLen) (hn : n < maxLen) (v : Value) (d : DataW Unit) (hv : hdR v = some (d, [])) (hv0 : v ≠ .slice none 0 0) :
    ∃ w', (Instr.mapUpdate 78 (.map (some M)) (.string s) v).run Try.prog w = .ok () w' ∧ GM w' M (n + 1) (updH hd s v) ∧ w.grownBy w' (some M) := by
  obtain ⟨D, h1, h2, h3, h4⟩ := h
  obtain ⟨w', hrun, hown, hg⟩ := h1.update lawStr Try.underlying78 hn (keyStr hs) hv
  refine ⟨w', hrun, ⟨_, hown, h2.put _ _, fun t ht => ?_, fun t ht hh => ?_⟩, hg⟩
  · show hdR (if t = s then v else hd t) = _
    by_cases e : t = s
    · subst e
      rw [if_pos rfl, atKey_put_same h2 (lawStr.key (keyStr hs))]
      exact hv
    · rw [if_neg e, atKey_put_other (by intro e'; injection e' with e'; exact e (ByteArray.ext (Array.ext' e')))]
      exact h3 t ht
  · show (if t = s then v else hd t) ≠ _
    by_cases e : t = s
    · rw [if_pos e]; exact hv0
    · rw [if_neg e]
      rw [has_put_other (by intro e'; injection e' with e'; exact e (ByteArray.ext (Array.ext' e')))] at hh
      exact h4 t ht hh
/-- block r goes over the map; left: the keys that are still to come -/
def GR (w : World) (M r n : Nat) (hd : ByteArray → Value) (left : Lit → Bool) (cnt : Nat) : Prop :=
  ∃ D : DataW Unit, w.ranges Try.prog 9 hdR M r n D left cnt ∧ (∀ s : ByteArray, s.size ≤ maxLen → hdR (hd s) = some (D.atKey (.string s.data.toList) .nil, [])) ∧ ∀ s : ByteArray, s.size ≤ maxLen → has D (.string s.data.toList) = true → hd s ≠ .slice none 0 0
/-- a row of the call's own of numbers -/
def InR (w : World) (base : Nat) (v : Value) (ns : List Nat) : Prop := w.ownsRow base 3 1 v ns.length (ns.map fun (k : Nat) => Value.int .i64 (k : Int))
/-- a row of the call's own of strings -/
def StrR (w : World) (base : Nat) (v : Value) (l : List ByteArray) : Prop := w.ownsRow base 9 1 v l.length (strs l)
theorem StrR.form {w : World} {base : Nat} {v : Value} {l : List ByteArray} (h : StrR w base v l) : ∃ ad c, v = .slice ad l.length c := own_form h
theorem GR.kept {w w' : World} {M r n : Nat} {hd : ByteArray → Value} {left : Lit → Bool} {cnt : Nat} (h : GR w M r n hd left cnt) {row : Option Nat} (hg : w.grownBy w' row) (h1 : some M ≠ row) (h2 : some r ≠ row) : GR w' M r n hd left cnt := by
  obtain ⟨D, hr, h3⟩ := h
  exact ⟨D, hr.kept hg h1 h2, h3⟩
theorem GR.apart {w : World} {M r n : Nat} {hd : ByteArray → Value} {left : Lit → Bool} {cnt : Nat} (h : GR w M r n hd left cnt) {base : Nat} {E : TypeId} {sz : Nat} {v : Value} {k : Nat} {xs : List Value} (hr : w.ownsRow base E sz v k xs) : some M ≠ v.ownBlock ∧ some r ≠ v.ownBlock := by
  obtain ⟨D, ⟨es, clock, since, seen, c0, h1, _, _, _, h5, _⟩, _⟩ := h
  rcases hr.2 with ⟨rfl, _⟩ | ⟨g, cap, cur, rfl, _, h3, _⟩
  · exact ⟨fun e => (by cases e), fun e => (by cases e)⟩
  · refine ⟨fun e => ?_, fun e => ?_⟩
    · injection e with e
      have e : M = g := e
      subst e
      rw [h1] at h3
      cases h3
    · injection e with e
      have e : r = g := e
      subst e
      rw [h5] at h3
      cases h3
theorem GR.gm {w : World} {M r n : Nat} {hd : ByteArray → Value} {left : Lit → Bool} {cnt : Nat} (h : GR w M r n hd left cnt) : GM w M n hd := by
  obtain ⟨D, hr, h3⟩ := h
  obtain ⟨es, e, _⟩ := hr.owns.entries lawStr
  exact ⟨D, hr.owns, ⟨es, e⟩, h3.1, h3.2⟩
/-- a row of one type stays where the block that turns is of another -/
theorem own_kept_at {w w' : World} {b1 : Nat} {E1 T : TypeId} {s1 : Nat} {v1 : Value} {n1 k : Nat} {x1 : List Value} {cur : Array Value} {fr : Nat × Nat} (h1 : w.ownsRow b1 E1 s1 v1 n1 x1) (hk : w.heap[k]? = some (.cells cur T fr)) (hE : T ≠ E1) (hg : w.grownBy w' (some k)) :
    w'.ownsRow b1 E1 s1 v1 n1 x1 := h1.kept hg (by
  rcases h1.2 with ⟨rfl, _⟩ | ⟨g, cap, cur', rfl, _, h3, _⟩
  · exact .inl rfl
  · refine .inr (fun e => ?_)
    injection e with e
    have e : g = k := e
    subst e
    rw [hk] at h3
    injection h3 with h3
    injection h3 with _ h4
    exact hE h4)
theorem own_kept_map {w w' : World} {b1 : Nat} {E1 : TypeId} {s1 : Nat} {v1 : Value} {n1 M n : Nat} {x1 : List Value} {hd : ByteArray → Value} (h1 : w.ownsRow b1 E1 s1 v1 n1 x1) (hm : GM w M n hd) (hg : w.grownBy w' (some M)) : w'.ownsRow b1 E1 s1 v1 n1 x1 :=
  h1.kept hg (.inr (fun e => hm.apart h1 e.symm))
theorem own_kept_none {w w' : World} {b1 : Nat} {E1 : TypeId} {s1 : Nat} {v1 : Value} {n1 : Nat} {x1 : List Value} (h1 : w.ownsRow b1 E1 s1 v1 n1 x1) (hg : w.grownBy w' none) : w'.ownsRow b1 E1 s1 v1 n1 x1 := h1.kept hg (by cases v1.ownBlock <;> simp)
theorem grown_setCell (w : World) (k j : Nat) (v : Value) : w.grownBy (w.setCell ⟨k, j, none⟩ v) (some k) := ⟨rfl, rfl, rfl, by simp [World.setCell], fun i _ hi => Below.heap_setCell w _ _ i (fun e => hi (by simp only at e; rw [e]))⟩
theorem grown_none {w w' : World} (h : Below w.heap.size w w') : w.grownBy w' none := ⟨h.os, h.tape, h.output, h.size, fun i hi _ => h.block i hi⟩
end Go.Proofs.Ytkodnagneblgaaa
