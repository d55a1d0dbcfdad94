/- One rule of two lists, one behind the other: the region that draws its order. -/
import Derived.Test.YtaolbfbnjbpljaaDoorT1
import Derived.Test.YtaolbfbnjbpljaaDoorI1
import Derived.Laws.AppendOwnNone
import Derived.Maps.AppendAt
namespace Go.Proofs.YtaolbfbnjbpljaaDoor
open Go.RowKit

theorem infoRule : (Tryd.prog.info? 85).map (fun i => (i.zero, i.size, i.bytes)) = some (some (.agg #[.string .empty, .slice none 0 0]), 2, 40) := by kernel_rfl
theorem cellsRule : Tryd.prog.cellsOf 85 = 2 := by kernel_rfl
/-- the cells of n elements of two cells -/
def twoCells (f : Nat → Nat → Value) : Nat → List Value
  | 0 => []
  | n + 1 => twoCells f n ++ [f n 0, f n 1]
theorem twoCells_len (f : Nat → Nat → Value) : ∀ n, (twoCells f n).length = n * 2
  | 0 => rfl
  | n + 1 => by rw [twoCells, List.length_append, twoCells_len f n]; simp; omega
theorem twoCells_at (f : Nat → Nat → Value) : ∀ (n i : Nat), i < n → (twoCells f n)[i * 2]? = some (f i 0) ∧ (twoCells f n)[i * 2 + 1]? = some (f i 1)
  | 0, i, h => absurd h (Nat.not_lt_zero _)
  | n + 1, i, h => by
    have hl := twoCells_len f n
    rw [twoCells]
    rcases Nat.lt_or_ge i n with h1 | h1
    · obtain ⟨a, b⟩ := twoCells_at f n i h1
      rw [List.getElem?_append_left (by omega), List.getElem?_append_left (by omega)]
      exact ⟨a, b⟩
    · obtain rfl : i = n := by omega
      rw [List.getElem?_append_right (by omega), List.getElem?_append_right (by omega), hl]
      simp
theorem twoCells_one (f : Nat → Nat → Value) : ∀ (n : Nat), (∀ i, i < n → (f i 0).oneCell' = true ∧ (f i 1).oneCell' = true) → ∀ u ∈ twoCells f n, u.oneCell' = true
  | 0, _, u, h => by cases h
  | n + 1, hf, u, h => by
    rw [twoCells, List.mem_append] at h
    rcases h with h | h
    · exact twoCells_one f n (fun i hi => hf i (by omega)) u h
    · simp only [List.mem_cons, List.not_mem_nil, or_false] at h
      rcases h with h | h
      · rw [h]; exact (hf n (by omega)).1
      · rw [h]; exact (hf n (by omega)).2
theorem Rw.news {w : World} {a : Addr} {n : Nat} {f b off} (h : Rw w (some a) n 2 f b off) : ∀ j u, (twoCells f n)[j]? = some u → w.cell? (a.add j) = some u := by
  intro j u hu
  have hj : j < (twoCells f n).length := (List.getElem?_eq_some_iff.1 hu).1
  rw [twoCells_len] at hj
  have ha : a = ⟨b, off, none⟩ := by have := h.adr (by omega); injection this
  have had : a.add j = ⟨b, off + j, none⟩ := by
    rw [ha]
    unfold Addr.add
    split
    · rename_i h; subst h; rfl
    · rfl
  have hi : j / 2 < n := by omega
  obtain ⟨h0, h1⟩ := twoCells_at f n (j / 2) hi
  rw [had]
  rcases Nat.mod_two_eq_zero_or_one j with hm | hm
  · rw [show j / 2 * 2 = j by omega] at h0
    rw [← hu, h0, show off + j = off + j / 2 * 2 + 0 by omega]
    exact h.cell _ 0 hi (by omega)
  · rw [show j / 2 * 2 + 1 = j by omega] at h1
    rw [← hu, h1, show off + j = off + j / 2 * 2 + 1 by omega]
    exact h.cell _ 1 hi (by omega)
theorem own_formR {w : World} {base : Nat} {E : TypeId} {v : Value} {n : Nat} {xs : List Value} (h : w.ownsRow base E 2 v n xs) : ∃ ad c, v = .slice ad n c := by
  obtain ⟨_, ⟨rfl, rfl⟩ | ⟨g, cap, cur, rfl, _⟩⟩ := h
  · exact ⟨_, _, rfl⟩
  · exact ⟨_, _, rfl⟩
/-- append of a slice of rules that came in to a row of the call's own, at one operation -/
theorem wp_app_rules {o : Oper} {a : Act} {K : Act → World → Prop} {Q : Exit → Act → World → Prop} {w : World} (s x : Operand)
    (ho : o.op = .call { callee := .builtin .append, args := #[s, x], argTypes := #[46, 46] })
    (base : Nat) (ad : Option Addr) (n c : Nat) (xs : List Value) (hs : a.eval s = .slice ad n c) (hown : w.ownsRow base 85 2 (.slice ad n c) n xs)
    (ad2 : Option Addr) (n2 c2 : Nat) (f : Nat → Nat → Value) (b2 off2 : Nat) (hx : a.eval x = .slice ad2 n2 c2) (hr : Rw w ad2 n2 2 f b2 off2) (hc2 : ad2 = none → c2 = 0)
    (hone : ∀ i, i < n2 → (f i 0).oneCell' = true ∧ (f i 1).oneCell' = true) (hn : n + n2 ≤ 1000) (hbase : base ≤ w.heap.size)
    (h : ∀ ad' c' w', w'.ownsRow base 85 2 (.slice ad' (n + n2) c') (n + n2) (xs ++ twoCells f n2) → w.grownBy w' (Value.ownBlock (.slice ad n c)) →
      (Value.ownBlock (.slice ad' (n + n2) c') = Value.ownBlock (.slice ad n c) ∨ ∀ g, Value.ownBlock (.slice ad' (n + n2) c') = some g → w.heap.size ≤ g) → K (a.put o.dst (.slice ad' (n + n2) c')) w') : o.wp Tryd.prog a w K Q := by
  obtain ⟨i0, hi, hz0, hz1, hz2⟩ := info_parts infoRule
  cases ad2 with
  | none =>
    have h0 : n2 = 0 := by
      rcases Nat.eq_zero_or_pos n2 with h | h
      · exact h
      · have := hr.adr (by omega); cases this
    obtain rfl := hc2 rfl
    subst h0
    have hrun := run_append_owned_none (P := Tryd.prog) (w := w) base 46 o.type 85 i0 2 Tryd.underlying46 hi (.slice ad n c) n xs hown
    unfold Oper.wp
    simp [execOp, ho, resolve, invoke, builtin, hs, hx, hrun, Result.andThen]
    exact h ad c w (by simpa [twoCells] using hown) (World.grownBy.refl _ _) (.inl rfl)
  | some A2 =>
    obtain ⟨v', w', hrun, h1, h2, _, h4⟩ := run_append_own_at (P := Tryd.prog) (w := w) base 46 o.type 85 i0 (.agg #[.string .empty, .slice none 0 0]) 2 40 Tryd.underlying46 hi hz0 hz1 hz2 rfl (by omega) (.slice ad n c) n xs hown A2 n2 c2 (twoCells f n2) (twoCells_len f n2) hr.news (twoCells_one f n2 hone) (by unfold maxLen; omega) (by omega) hbase
    unfold Oper.wp
    simp [execOp, ho, resolve, invoke, builtin, hs, hx, hrun, Result.andThen]
    obtain ⟨ad', c', rfl⟩ := own_formR h1
    refine h ad' c' w' h1 h2 ?_
    rcases h4 with h4 | h4
    · exact .inl h4
    · exact .inr fun g hg => by rw [h4] at hg; injection hg with hg; omega

/-- the slots that the region writes -/
def dsR : List Nat := [70, 71, 72, 73, 74, 75, 76, 77, 78, 79, 6]
/-- what holds while 'r := append(append([]api.Rule{}, x.Cardinal...), x.Ordinal...)[k]' is under way, ahead of the store -/
structure JR (A0 : Act) (T : List (Nat × Nat × Value)) (w0 : World) (n3 n4 k : Nat) (xs ys : List Value) (r0 r1 : Value) (L : Array Bool) (a : Act) (w : World) : Prop where
  fr : Fr A0 a dsR
  tab : Tab T L a
  bel : Below w0.heap.size w0 w
  o3 : L.getD 3 false = true → L.getD 0 false = true
  o6 : L.getD 6 false = true → L.getD 3 false = true
  o8 : L.getD 8 false = true → L.getD 6 false = true
  s0 : L.getD 0 false = true → L.getD 3 false = false → ∃ ad c, a.tmps.getD 70 undef = .slice ad 0 c ∧ w.ownsRow w0.heap.size 85 2 (.slice ad 0 c) 0 []
  s3 : L.getD 3 false = true → L.getD 6 false = false → ∃ ad c, a.tmps.getD 73 undef = .slice ad n3 c ∧ w.ownsRow w0.heap.size 85 2 (.slice ad n3 c) n3 xs
  s6 : L.getD 6 false = true → ∃ ad c, a.tmps.getD 76 undef = .slice ad (n3 + n4) c ∧ w.ownsRow w0.heap.size 85 2 (.slice ad (n3 + n4) c) (n3 + n4) (xs ++ ys)
  s8 : L.getD 8 false = true → ∃ g, a.tmps.getD 78 undef = .pointer (some ⟨g, k * 2, none⟩) ∧ w0.heap.size ≤ g ∧ w.cell? ⟨g, k * 2, none⟩ = some r0 ∧ w.cell? ⟨g, k * 2 + 1, none⟩ = some r1
  box : L.getD 10 false = true → ∃ B, a.tmps.getD 6 undef = .pointer (some ⟨B, 0, none⟩) ∧ w0.heap.size ≤ B ∧ w.heap[B]? = some (.cells #[.string .empty, .slice none 0 0] 85 (0, 0)) ∧
    (L.getD 0 false = true → (a.tmps.getD 70 undef).ownBlock ≠ some B) ∧ (L.getD 3 false = true → (a.tmps.getD 73 undef).ownBlock ≠ some B)
  lo : ∀ (j d : Nat), (j = 0 ∧ d = 70) ∨ (j = 3 ∧ d = 73) → L.getD j false = true → ∀ B, (a.tmps.getD d undef).ownBlock = some B → B < w.heap.size
section
variable {A0 : Act} {T : List (Nat × Nat × Value)} {w0 : World} {n3 n4 k : Nat} {xs ys : List Value} {r0 r1 : Value} {L : Array Bool} {a : Act} {w : World}
theorem own_below2 {w w' : World} {base size : Nat} {E : TypeId} {v : Value} {n : Nat} {xs : List Value} (h : w.ownsRow base E size v n xs) (hb : Below w.heap.size w w') : w'.ownsRow base E size v n xs := by
  refine ⟨h.1, ?_⟩
  rcases h.2 with h2 | ⟨g, cap, cur, h1, h2, h3, h4, h5, h6, h7⟩
  · exact .inl h2
  · have hg : g < w.heap.size := by
      rcases Nat.lt_or_ge g w.heap.size with h' | h'
      · exact h'
      · simp [Array.getElem?_eq_none h'] at h3
    exact .inr ⟨g, cap, cur, h1, h2, (hb.block g hg).trans h3, h4, h5, h6, h7⟩
/-- an operation whose slot is none of the rows', the box or the element's place -/
theorem JR.det (h : JR A0 T w0 n3 n4 k xs ys r0 r1 L a w) (hA : 79 < A0.tmps.size) (hL : L.size = 12) (i d : Nat) (v : Value)
    (hi : i < 12) (i0 : i ≠ 0) (i3 : i ≠ 3) (i6 : i ≠ 6) (i8 : i ≠ 8) (i10 : i ≠ 10) (hd : d ∈ dsR) (d70 : d ≠ 70) (d73 : d ≠ 73) (d76 : d ≠ 76) (d78 : d ≠ 78) (d6 : d ≠ 6) (hT : ∀ x ∈ T, (x.1 = i ↔ x.2.1 = d) ∧ (x.1 = i → x.2.2 = v)) :
    JR A0 T w0 n3 n4 k xs ys r0 r1 (L.setIfInBounds i true) (a.put (some d) v) w := by
  have hd' : d < a.tmps.size := by rw [h.fr.size]; simp [dsR] at hd; omega
  refine ⟨h.fr.put hd v, h.tab.put hd' (by omega) hT, h.bel, ?_, ?_, ?_, ?_, ?_, ?_, ?_, ?_, ?_⟩
  · rw [getD_set_other i3, getD_set_other i0]; exact h.o3
  · rw [getD_set_other i6, getD_set_other i3]; exact h.o6
  · rw [getD_set_other i8, getD_set_other i6]; exact h.o8
  · rw [getD_set_other i0, getD_set_other i3, getD_put_other d70]; exact h.s0
  · rw [getD_set_other i3, getD_set_other i6, getD_put_other d73]; exact h.s3
  · rw [getD_set_other i6, getD_put_other d76]; exact h.s6
  · rw [getD_set_other i8, getD_put_other d78]; exact h.s8
  · rw [getD_set_other i10, getD_set_other i0, getD_set_other i3, getD_put_other d6, getD_put_other d70, getD_put_other d73]; exact h.box
  · rintro j e (⟨rfl, rfl⟩ | ⟨rfl, rfl⟩) e1
    · rw [getD_set_other i0] at e1; rw [getD_put_other d70]; exact h.lo 0 70 (.inl ⟨rfl, rfl⟩) e1
    · rw [getD_set_other i3] at e1; rw [getD_put_other d73]; exact h.lo 3 73 (.inr ⟨rfl, rfl⟩) e1
theorem own_lt2 {base : Nat} {E : TypeId} {size : Nat} {v : Value} {n : Nat} {xs : List Value} (h : w.ownsRow base E size v n xs) {B : Nat} (hB : w.heap.size ≤ B) : v.ownBlock ≠ some B := fun e => by
  have := (World.ownsRow.lt h B e).2
  omega
/-- the empty row -/
theorem JR.op0 (h : JR A0 T w0 n3 n4 k xs ys r0 r1 L a w) (hA : 79 < A0.tmps.size) (hL : L.size = 12) (h0 : L.getD 0 false = false) (hT : ∀ x ∈ T, x.1 ≠ 0 ∧ x.2.1 ≠ 70) :
    JR A0 T w0 n3 n4 k xs ys r0 r1 (L.setIfInBounds 0 true) (a.put (some 70) (.slice (some ⟨w.heap.size, 0, none⟩) 0 0)) (w.alloc (.cells #[] 85)) := by
  have hd' : 70 < a.tmps.size := by rw [h.fr.size]; omega
  have hb : Below w.heap.size w (w.alloc (.cells #[] 85)) := (Below.refl _ _).alloc (Nat.le_refl _) _
  have hh : (w.alloc (.cells #[] 85)).heap[w.heap.size]? = some (.cells #[] 85 (0, 0)) := by show (w.heap.push _)[w.heap.size]? = some _; simp
  refine ⟨h.fr.put (by decide) _, h.tab.put hd' (by omega) (fun x hx => ?_), h.bel.trans (hb.mono h.bel.size), ?_, ?_, ?_, ?_, ?_, ?_, ?_, ?_, ?_⟩
  · obtain ⟨h1, h2⟩ := hT x hx
    exact ⟨⟨fun e => absurd e h1, fun e => absurd e h2⟩, fun e => absurd e h1⟩
  · intro _; exact getD_set_same (by omega)
  · rw [getD_set_other (by omega), getD_set_other (by omega)]; exact h.o6
  · rw [getD_set_other (by omega), getD_set_other (by omega)]; exact h.o8
  · intro _ _
    exact ⟨_, 0, getD_put_same hd', rfl, .inr ⟨w.heap.size, 0, #[], rfl, h.bel.size, hh, Nat.le_refl _, by unfold maxLen; omega, rfl, rfl⟩⟩
  · rw [getD_set_other (by omega), getD_set_other (by omega), getD_put_other (by omega)]
    intro a1 a2
    obtain ⟨ad, c, e1, e2⟩ := h.s3 a1 a2
    exact ⟨ad, c, e1, own_below2 e2 hb⟩
  · rw [getD_set_other (by omega), getD_put_other (by omega)]
    intro a1
    obtain ⟨ad, c, e1, e2⟩ := h.s6 a1
    exact ⟨ad, c, e1, own_below2 e2 hb⟩
  · rw [getD_set_other (by omega), getD_put_other (by omega)]
    intro a1
    have := h.o3 (h.o6 (h.o8 a1))
    rw [h0] at this; cases this
  · rw [getD_set_other (show 0 ≠ 10 by omega), getD_set_other (show 0 ≠ 3 by omega), getD_put_other (show 70 ≠ 6 by omega), getD_put_other (show 70 ≠ 73 by omega), getD_put_same hd']
    intro a1
    obtain ⟨B, e1, e2, e3, _, e5⟩ := h.box a1
    have hB := (Array.getElem?_eq_some_iff.1 e3).1
    exact ⟨B, e1, e2, (hb.block B hB).trans e3, fun _ e => by simp [Value.ownBlock] at e; omega, e5⟩
  · rintro j e (⟨rfl, rfl⟩ | ⟨rfl, rfl⟩) e1 B
    · rw [getD_put_same hd']; intro e2; simp [Value.ownBlock] at e2; have := hb.size; simp at this ⊢; omega
    · rw [getD_set_other (by omega)] at e1; rw [getD_put_other (by omega)]; intro e2; have := h.lo 3 73 (.inr ⟨rfl, rfl⟩) e1 B e2; have := hb.size; omega
/-- the box -/
theorem JR.op10 (h : JR A0 T w0 n3 n4 k xs ys r0 r1 L a w) (hA : 79 < A0.tmps.size) (hL : L.size = 12) (hT : ∀ x ∈ T, x.1 ≠ 10 ∧ x.2.1 ≠ 6) :
    JR A0 T w0 n3 n4 k xs ys r0 r1 (L.setIfInBounds 10 true) (a.put (some 6) (.pointer (some ⟨w.heap.size, 0, none⟩))) (w.alloc (.cells #[.string .empty, .slice none 0 0] 85)) := by
  have hd' : 6 < a.tmps.size := by rw [h.fr.size]; omega
  have hb : Below w.heap.size w (w.alloc (.cells #[.string .empty, .slice none 0 0] 85)) := (Below.refl _ _).alloc (Nat.le_refl _) _
  have hh : (w.alloc (.cells #[.string .empty, .slice none 0 0] 85)).heap[w.heap.size]? = some (.cells #[.string .empty, .slice none 0 0] 85 (0, 0)) := by show (w.heap.push _)[w.heap.size]? = some _; simp
  refine ⟨h.fr.put (by decide) _, h.tab.put hd' (by omega) (fun x hx => ?_), h.bel.trans (hb.mono h.bel.size), ?_, ?_, ?_, ?_, ?_, ?_, ?_, ?_, ?_⟩
  · obtain ⟨h1, h2⟩ := hT x hx
    exact ⟨⟨fun e => absurd e h1, fun e => absurd e h2⟩, fun e => absurd e h1⟩
  · rw [getD_set_other (by omega), getD_set_other (by omega)]; exact h.o3
  · rw [getD_set_other (by omega), getD_set_other (by omega)]; exact h.o6
  · rw [getD_set_other (by omega), getD_set_other (by omega)]; exact h.o8
  · rw [getD_set_other (by omega), getD_set_other (by omega), getD_put_other (by omega)]
    intro a1 a2
    obtain ⟨ad, c, e1, e2⟩ := h.s0 a1 a2
    exact ⟨ad, c, e1, own_below2 e2 hb⟩
  · rw [getD_set_other (by omega), getD_set_other (by omega), getD_put_other (by omega)]
    intro a1 a2
    obtain ⟨ad, c, e1, e2⟩ := h.s3 a1 a2
    exact ⟨ad, c, e1, own_below2 e2 hb⟩
  · rw [getD_set_other (by omega), getD_put_other (by omega)]
    intro a1
    obtain ⟨ad, c, e1, e2⟩ := h.s6 a1
    exact ⟨ad, c, e1, own_below2 e2 hb⟩
  · rw [getD_set_other (by omega), getD_put_other (by omega)]
    intro a1
    obtain ⟨g, e1, e2, e3, e4⟩ := h.s8 a1
    have hg := World.block_lt_of_cell? w _ e3
    exact ⟨g, e1, e2, (hb.cell (p := ⟨g, k * 2, none⟩) hg).trans e3, (hb.cell (p := ⟨g, k * 2 + 1, none⟩) hg).trans e4⟩
  · rw [getD_set_other (show 10 ≠ 0 by omega), getD_set_other (show 10 ≠ 3 by omega), getD_put_other (show 6 ≠ 70 by omega), getD_put_other (show 6 ≠ 73 by omega), getD_put_same hd']
    intro _
    exact ⟨w.heap.size, rfl, h.bel.size, hh, fun e1 e2 => absurd (h.lo 0 70 (.inl ⟨rfl, rfl⟩) e1 _ e2) (Nat.lt_irrefl _), fun e1 e2 => absurd (h.lo 3 73 (.inr ⟨rfl, rfl⟩) e1 _ e2) (Nat.lt_irrefl _)⟩
  · rintro j e (⟨rfl, rfl⟩ | ⟨rfl, rfl⟩) e1 B
    · rw [getD_set_other (by omega)] at e1; rw [getD_put_other (by omega)]; intro e2; have := h.lo 0 70 (.inl ⟨rfl, rfl⟩) e1 B e2; have := hb.size; omega
    · rw [getD_set_other (by omega)] at e1; rw [getD_put_other (by omega)]; intro e2; have := h.lo 3 73 (.inr ⟨rfl, rfl⟩) e1 B e2; have := hb.size; omega
/-- the first append -/
theorem JR.op3 (h : JR A0 T w0 n3 n4 k xs ys r0 r1 L a w) (hA : 79 < A0.tmps.size) (hL : L.size = 12) (h0 : L.getD 0 false = true) (h3 : L.getD 3 false = false) (hT : ∀ x ∈ T, x.1 ≠ 3 ∧ x.2.1 ≠ 73)
    {ad : Option Addr} {c : Nat} (hs : a.tmps.getD 70 undef = .slice ad 0 c) (hown0 : w.ownsRow w0.heap.size 85 2 (.slice ad 0 c) 0 []) {ad' : Option Addr} {c' : Nat} {w' : World}
    (hown : w'.ownsRow w0.heap.size 85 2 (.slice ad' n3 c') n3 xs) (hg : w.grownBy w' (Value.ownBlock (.slice ad 0 c)))
    (hb : Value.ownBlock (.slice ad' n3 c') = Value.ownBlock (.slice ad 0 c) ∨ ∀ g, Value.ownBlock (.slice ad' n3 c') = some g → w.heap.size ≤ g) :
    JR A0 T w0 n3 n4 k xs ys r0 r1 (L.setIfInBounds 3 true) (a.put (some 73) (.slice ad' n3 c')) w' := by
  have hd' : 73 < a.tmps.size := by rw [h.fr.size]; omega
  have n6 : L.getD 6 false = true → False := fun e => by have := h.o6 e; rw [h3] at this; cases this
  refine ⟨h.fr.put (by decide) _, h.tab.put hd' (by omega) (fun x hx => ?_), h.bel.grown hg h.bel.size (fun q hq => (World.ownsRow.lt hown0 q hq).1), ?_, ?_, ?_, ?_, ?_, ?_, ?_, ?_, ?_⟩
  · obtain ⟨h1, h2⟩ := hT x hx
    exact ⟨⟨fun e => absurd e h1, fun e => absurd e h2⟩, fun e => absurd e h1⟩
  · intro _; rw [getD_set_other (by omega)]; exact h0
  · intro _; exact getD_set_same (by omega)
  · rw [getD_set_other (by omega), getD_set_other (by omega)]; exact h.o8
  · intro _ e; rw [getD_set_same (by omega)] at e; cases e
  · intro _ _; exact ⟨ad', c', getD_put_same hd', hown⟩
  · rw [getD_set_other (by omega)]; intro e; exact (n6 e).elim
  · rw [getD_set_other (by omega)]; intro e; exact (n6 (h.o8 e)).elim
  · rw [getD_set_other (show 3 ≠ 10 by omega), getD_set_other (show 3 ≠ 0 by omega), getD_put_other (show 73 ≠ 6 by omega), getD_put_other (show 73 ≠ 70 by omega), getD_put_same hd']
    intro e
    obtain ⟨B, e1, e2, e3, e4, _⟩ := h.box e
    have hB := (Array.getElem?_eq_some_iff.1 e3).1
    have hne : Value.ownBlock (.slice ad 0 c) ≠ some B := by rw [← hs]; exact e4 h0
    refine ⟨B, e1, e2, (hg.block B hB (fun e => hne e.symm)).trans e3, e4, fun _ e5 => ?_⟩
    rcases hb with hb | hb
    · rw [hb] at e5; exact hne e5
    · have := hb B e5; omega
  · rintro j e (⟨rfl, rfl⟩ | ⟨rfl, rfl⟩) e1 B
    · rw [getD_set_other (by omega)] at e1; rw [getD_put_other (by omega)]; intro e2; have := h.lo 0 70 (.inl ⟨rfl, rfl⟩) e1 B e2; have := hg.size; omega
    · rw [getD_put_same hd']; intro e2; exact (World.ownsRow.lt hown B e2).2
/-- the second append -/
theorem JR.op6 (h : JR A0 T w0 n3 n4 k xs ys r0 r1 L a w) (hA : 79 < A0.tmps.size) (hL : L.size = 12) (h3 : L.getD 3 false = true) (h6 : L.getD 6 false = false) (hT : ∀ x ∈ T, x.1 ≠ 6 ∧ x.2.1 ≠ 76)
    {ad : Option Addr} {c : Nat} (hs : a.tmps.getD 73 undef = .slice ad n3 c) (hown0 : w.ownsRow w0.heap.size 85 2 (.slice ad n3 c) n3 xs) {ad' : Option Addr} {c' : Nat} {w' : World}
    (hown : w'.ownsRow w0.heap.size 85 2 (.slice ad' (n3 + n4) c') (n3 + n4) (xs ++ ys)) (hg : w.grownBy w' (Value.ownBlock (.slice ad n3 c))) :
    JR A0 T w0 n3 n4 k xs ys r0 r1 (L.setIfInBounds 6 true) (a.put (some 76) (.slice ad' (n3 + n4) c')) w' := by
  have hd' : 76 < a.tmps.size := by rw [h.fr.size]; omega
  have n8 : L.getD 8 false = true → False := fun e => by have := h.o8 e; rw [h6] at this; cases this
  refine ⟨h.fr.put (by decide) _, h.tab.put hd' (by omega) (fun x hx => ?_), h.bel.grown hg h.bel.size (fun q hq => (World.ownsRow.lt hown0 q hq).1), ?_, ?_, ?_, ?_, ?_, ?_, ?_, ?_, ?_⟩
  · obtain ⟨h1, h2⟩ := hT x hx
    exact ⟨⟨fun e => absurd e h1, fun e => absurd e h2⟩, fun e => absurd e h1⟩
  · rw [getD_set_other (show 6 ≠ 3 by omega), getD_set_other (show 6 ≠ 0 by omega)]; exact h.o3
  · intro _; rw [getD_set_other (by omega)]; exact h3
  · intro _; exact getD_set_same (by omega)
  · intro _ e; rw [getD_set_other (by omega), h3] at e; cases e
  · intro _ e; rw [getD_set_same (by omega)] at e; cases e
  · intro _; exact ⟨ad', c', getD_put_same hd', hown⟩
  · rw [getD_set_other (by omega)]; intro e; exact (n8 e).elim
  · rw [getD_set_other (show 6 ≠ 10 by omega), getD_set_other (show 6 ≠ 0 by omega), getD_set_other (show 6 ≠ 3 by omega), getD_put_other (show 76 ≠ 6 by omega), getD_put_other (show 76 ≠ 70 by omega), getD_put_other (show 76 ≠ 73 by omega)]
    intro e
    obtain ⟨B, e1, e2, e3, e4, e5⟩ := h.box e
    have hB := (Array.getElem?_eq_some_iff.1 e3).1
    have hne : Value.ownBlock (.slice ad n3 c) ≠ some B := by rw [← hs]; exact e5 h3
    exact ⟨B, e1, e2, (hg.block B hB (fun e => hne e.symm)).trans e3, e4, e5⟩
  · rintro j e (⟨rfl, rfl⟩ | ⟨rfl, rfl⟩) e1 B
    · rw [getD_set_other (by omega)] at e1; rw [getD_put_other (by omega)]; intro e2; have := h.lo 0 70 (.inl ⟨rfl, rfl⟩) e1 B e2; have := hg.size; omega
    · rw [getD_set_other (by omega)] at e1; rw [getD_put_other (by omega)]; intro e2; have := h.lo 3 73 (.inr ⟨rfl, rfl⟩) e1 B e2; have := hg.size; omega
/-- the element's place -/
theorem JR.op8 (h : JR A0 T w0 n3 n4 k xs ys r0 r1 L a w) (hA : 79 < A0.tmps.size) (hL : L.size = 12) (h6 : L.getD 6 false = true) (hT : ∀ x ∈ T, x.1 ≠ 8 ∧ x.2.1 ≠ 78)
    (g : Nat) (hg0 : w0.heap.size ≤ g) (c0 : w.cell? ⟨g, k * 2, none⟩ = some r0) (c1 : w.cell? ⟨g, k * 2 + 1, none⟩ = some r1) :
    JR A0 T w0 n3 n4 k xs ys r0 r1 (L.setIfInBounds 8 true) (a.put (some 78) (.pointer (some ⟨g, k * 2, none⟩))) w := by
  have hd' : 78 < a.tmps.size := by rw [h.fr.size]; omega
  refine ⟨h.fr.put (by decide) _, h.tab.put hd' (by omega) (fun x hx => ?_), h.bel, ?_, ?_, ?_, ?_, ?_, ?_, ?_, ?_, ?_⟩
  · obtain ⟨h1, h2⟩ := hT x hx
    exact ⟨⟨fun e => absurd e h1, fun e => absurd e h2⟩, fun e => absurd e h1⟩
  · rw [getD_set_other (show 8 ≠ 3 by omega), getD_set_other (show 8 ≠ 0 by omega)]; exact h.o3
  · rw [getD_set_other (show 8 ≠ 6 by omega), getD_set_other (show 8 ≠ 3 by omega)]; exact h.o6
  · intro _; rw [getD_set_other (by omega)]; exact h6
  · rw [getD_set_other (show 8 ≠ 0 by omega), getD_set_other (show 8 ≠ 3 by omega), getD_put_other (by omega)]; exact h.s0
  · rw [getD_set_other (show 8 ≠ 3 by omega), getD_set_other (show 8 ≠ 6 by omega), getD_put_other (by omega)]; exact h.s3
  · rw [getD_set_other (show 8 ≠ 6 by omega), getD_put_other (by omega)]; exact h.s6
  · intro _; exact ⟨g, getD_put_same hd', hg0, c0, c1⟩
  · rw [getD_set_other (show 8 ≠ 10 by omega), getD_set_other (show 8 ≠ 0 by omega), getD_set_other (show 8 ≠ 3 by omega), getD_put_other (show 78 ≠ 6 by omega), getD_put_other (show 78 ≠ 70 by omega), getD_put_other (show 78 ≠ 73 by omega)]
    exact h.box
  · rintro j e (⟨rfl, rfl⟩ | ⟨rfl, rfl⟩) e1
    · rw [getD_set_other (by omega)] at e1; rw [getD_put_other (by omega)]; exact h.lo 0 70 (.inl ⟨rfl, rfl⟩) e1
    · rw [getD_set_other (by omega)] at e1; rw [getD_put_other (by omega)]; exact h.lo 3 73 (.inr ⟨rfl, rfl⟩) e1
end
end Go.Proofs.YtaolbfbnjbpljaaDoor
