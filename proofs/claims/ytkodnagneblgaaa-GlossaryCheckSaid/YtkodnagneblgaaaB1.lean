/- Plain: the library's stable merge, on functions of places. -/
import Derived.Test.YtkodnagneblgaaaK
namespace Go.Proofs.Ytkodnagneblgaaa

/-- sorted between two places -/
def SortO (R : Int → Int → Prop) (z : Nat → Int) (a b : Nat) : Prop := ∀ i j, a ≤ i → i < j → j < b → R (z i) (z j)
/-- each on the left is less than each on the right -/
def CrossO (z : Nat → Int) (a m b : Nat) : Prop := ∀ i j, a ≤ i → i < m → m ≤ j → j < b → z i < z j
/-- the same members between two places -/
def MemO (z z' : Nat → Int) (a b : Nat) : Prop := (∀ i, a ≤ i → i < b → ∃ j, a ≤ j ∧ j < b ∧ z' i = z j) ∧ ∀ j, a ≤ j → j < b → ∃ i, a ≤ i ∧ i < b ∧ z' i = z j
/-- the same outside -/
def SameO (z z' : Nat → Int) (a b : Nat) : Prop := ∀ i, i < a ∨ b ≤ i → z' i = z i
/-- what lies between a and m has gone behind what lay between m and b -/
def RotO (z z' : Nat → Int) (a m b : Nat) : Prop := (∀ x, x < b - m → z' (a + x) = z (m + x)) ∧ (∀ x, x < m - a → z' (a + (b - m) + x) = z (a + x)) ∧ SameO z z' a b
/-- two ranges of n places have changed places -/
def SwapO (z z' : Nat → Int) (a b n : Nat) : Prop := (∀ x, x < n → z' (a + x) = z (b + x) ∧ z' (b + x) = z (a + x)) ∧ ∀ i, (i < a ∨ a + n ≤ i) → (i < b ∨ b + n ≤ i) → z' i = z i
theorem MemO.refl (z : Nat → Int) (a b : Nat) : MemO z z a b := ⟨fun i h1 h2 => ⟨i, h1, h2, rfl⟩, fun i h1 h2 => ⟨i, h1, h2, rfl⟩⟩
theorem MemO.trans {z z' z'' : Nat → Int} {a b : Nat} (h : MemO z z' a b) (h' : MemO z' z'' a b) : MemO z z'' a b := by
  refine ⟨fun i h1 h2 => ?_, fun j h1 h2 => ?_⟩
  · obtain ⟨j, j1, j2, e⟩ := h'.1 i h1 h2
    obtain ⟨k, k1, k2, e2⟩ := h.1 j j1 j2
    exact ⟨k, k1, k2, e.trans e2⟩
  · obtain ⟨i, i1, i2, e⟩ := h.2 j h1 h2
    obtain ⟨k, k1, k2, e2⟩ := h'.2 i i1 i2
    exact ⟨k, k1, k2, e2.trans e⟩
/-- members of a part are members of the whole, where the rest is the same -/
theorem MemO.widen {z z' : Nat → Int} {a b c d : Nat} (h : MemO z z' a b) (hs : SameO z z' a b) (hc : c ≤ a) (hd : b ≤ d) : MemO z z' c d := by
  refine ⟨fun i h1 h2 => ?_, fun j h1 h2 => ?_⟩
  · by_cases hi : a ≤ i ∧ i < b
    · obtain ⟨j, j1, j2, e⟩ := h.1 i hi.1 hi.2
      exact ⟨j, by omega, by omega, e⟩
    · exact ⟨i, h1, h2, hs i (by omega)⟩
  · by_cases hi : a ≤ j ∧ j < b
    · obtain ⟨i, i1, i2, e⟩ := h.2 j hi.1 hi.2
      exact ⟨i, by omega, by omega, e⟩
    · exact ⟨j, h1, h2, hs j (by omega)⟩
theorem SameO.refl (z : Nat → Int) (a b : Nat) : SameO z z a b := fun _ _ => rfl
theorem SameO.trans {z z' z'' : Nat → Int} {a b : Nat} (h : SameO z z' a b) (h' : SameO z' z'' a b) : SameO z z'' a b := fun i hi => (h' i hi).trans (h i hi)
theorem SameO.widen {z z' : Nat → Int} {a b c d : Nat} (h : SameO z z' a b) (hc : c ≤ a) (hd : b ≤ d) : SameO z z' c d := fun i hi => h i (by omega)
theorem RotO.mem {z z' : Nat → Int} {a m b : Nat} (h : RotO z z' a m b) (h1 : a ≤ m) (h2 : m ≤ b) : MemO z z' a b := by
  obtain ⟨r1, r2, _⟩ := h
  refine ⟨fun i i1 i2 => ?_, fun j j1 j2 => ?_⟩
  · by_cases hi : i - a < b - m
    · refine ⟨m + (i - a), by omega, by omega, ?_⟩
      have := r1 (i - a) hi
      rwa [show a + (i - a) = i by omega] at this
    · refine ⟨a + (i - a - (b - m)), by omega, by omega, ?_⟩
      have := r2 (i - a - (b - m)) (by omega)
      rwa [show a + (b - m) + (i - a - (b - m)) = i by omega] at this
  · by_cases hj : j < m
    · refine ⟨a + (b - m) + (j - a), by omega, by omega, ?_⟩
      have := r2 (j - a) (by omega)
      rwa [show a + (j - a) = j by omega] at this
    · refine ⟨a + (j - m), by omega, by omega, ?_⟩
      have := r1 (j - m) (by omega)
      rwa [show m + (j - m) = j by omega] at this
/-- nothing to rotate -/
theorem RotO.none {z : Nat → Int} {a m b : Nat} (h : a = m ∨ m = b) : RotO z z a m b := by
  refine ⟨fun x hx => ?_, fun x hx => ?_, SameO.refl _ _ _⟩
  · rcases h with h | h
    · rw [h]
    · omega
  · rcases h with h | h
    · omega
    · rw [h, Nat.sub_self, Nat.add_zero]
/-- the merge's step: the halves behind the rotation, sorted, are the whole, sorted -/
theorem sym_done {R : Int → Int → Prop} {z z1 z2 z3 : Nat → Int} {a start m end' b mid : Nat} (h1 : a ≤ start) (h2 : start ≤ m) (h3 : m ≤ end') (h4 : end' ≤ b) (h5 : end' - m + start = mid)
    (s1 : SortO R z a m) (s2 : SortO R z m b) (A : ∀ i j, a ≤ i → i < start → end' ≤ j → j < b → R (z i) (z j)) (B : ∀ i j, start ≤ i → i < m → m ≤ j → j < end' → R (z j) (z i))
    (hr : RotO z z1 start m end') (m2 : MemO z1 z2 a mid) (e2 : SameO z1 z2 a mid) (t2 : SortO R z2 a mid) (m3 : MemO z2 z3 mid b) (e3 : SameO z2 z3 mid b) (t3 : SortO R z3 mid b) :
    SortO R z3 a b ∧ MemO z z3 a b ∧ SameO z z3 a b := by
  have hm1 : MemO z z1 a b := (hr.mem h2 h3).widen hr.2.2 h1 h4
  have he1 : SameO z z1 a b := hr.2.2.widen h1 h4
  refine ⟨fun i j hi hij hj => ?_, (hm1.trans (m2.widen e2 (Nat.le_refl _) (by omega))).trans (m3.widen e3 (by omega) (Nat.le_refl _)), (he1.trans (e2.widen (Nat.le_refl _) (by omega))).trans (e3.widen (by omega) (Nat.le_refl _))⟩
  -- where a value of the first half comes from, and one of the second
  have lo : ∀ i, a ≤ i → i < mid → ∃ k, z1 i = z k ∧ ((a ≤ k ∧ k < start) ∨ (m ≤ k ∧ k < end')) := fun i i1 i2 => by
    by_cases hk : i < start
    · exact ⟨i, hr.2.2 i (.inl hk), .inl ⟨i1, hk⟩⟩
    · refine ⟨m + (i - start), ?_, .inr ⟨by omega, by omega⟩⟩
      have := hr.1 (i - start) (by omega)
      rwa [show start + (i - start) = i by omega] at this
  have hi' : ∀ i, mid ≤ i → i < b → ∃ k, z1 i = z k ∧ ((start ≤ k ∧ k < m) ∨ (end' ≤ k ∧ k < b)) := fun i i1 i2 => by
    by_cases hk : end' ≤ i
    · exact ⟨i, hr.2.2 i (.inr hk), .inr ⟨hk, i2⟩⟩
    · refine ⟨start + (i - mid), ?_, .inl ⟨by omega, by omega⟩⟩
      have := hr.2.1 (i - mid) (by omega)
      rwa [show start + (end' - m) + (i - mid) = i by omega] at this
  by_cases hj2 : j < mid
  · rw [e3 i (.inl (by omega)), e3 j (.inl hj2)]
    exact t2 i j hi hij hj2
  · by_cases hi2 : i < mid
    · rw [e3 i (.inl hi2)]
      obtain ⟨i', i1, i2, ei⟩ := m2.1 i hi hi2
      obtain ⟨j', j1, j2, ej⟩ := m3.1 j (by omega) hj
      rw [e2 j' (.inr j1)] at ej
      rw [ei, ej]
      obtain ⟨k, ek, hk⟩ := lo i' i1 i2
      obtain ⟨l, el, hl⟩ := hi' j' j1 j2
      rw [ek, el]
      rcases hk with hk | hk <;> rcases hl with hl | hl
      · exact s1 k l hk.1 (by omega) hl.2
      · exact A k l hk.1 hk.2 hl.1 hl.2
      · exact B l k hl.1 hl.2 hk.1 hk.2
      · exact s2 k l hk.1 (by omega) hl.2
    · exact t3 i j (by omega) hij hj
/-- what the binary search finds: below it the left ones come first, from it on the right ones -/
theorem sym_A {R : Int → Int → Prop} (tr : ∀ x y z, R x y → R y z → R x z) {z : Nat → Int} {a start m end' b : Nat} (s1 : SortO R z a m) (s2 : SortO R z m b) (h2 : start ≤ m) (h3 : m ≤ end') (h : a < start → end' < b → R (z (start - 1)) (z end')) :
    ∀ i j, a ≤ i → i < start → end' ≤ j → j < b → R (z i) (z j) := fun i j i1 i2 j1 j2 => by
  have h0 := h (by omega) (by omega)
  have k1 : i = start - 1 ∨ R (z i) (z (start - 1)) := by
    by_cases e : i = start - 1
    · exact .inl e
    · exact .inr (s1 i (start - 1) i1 (by omega) (by omega))
  have k2 : j = end' ∨ R (z end') (z j) := by
    by_cases e : j = end'
    · exact .inl e
    · exact .inr (s2 end' j h3 (by omega) j2)
  rcases k1 with e1 | e1 <;> rcases k2 with e2 | e2
  · rw [e1, e2]; exact h0
  · rw [e1]; exact tr _ _ _ h0 e2
  · rw [e2]; exact tr _ _ _ e1 h0
  · exact tr _ _ _ (tr _ _ _ e1 h0) e2
theorem sym_B {R : Int → Int → Prop} (tr : ∀ x y z, R x y → R y z → R x z) {z : Nat → Int} {a start m end' b : Nat} (s1 : SortO R z a m) (s2 : SortO R z m b) (h1 : a ≤ start) (h4 : end' ≤ b) (h : start < m → m < end' → R (z (end' - 1)) (z start)) :
    ∀ i j, start ≤ i → i < m → m ≤ j → j < end' → R (z j) (z i) := fun i j i1 i2 j1 j2 => by
  have h0 := h (by omega) (by omega)
  have k1 : i = start ∨ R (z start) (z i) := by
    by_cases e : i = start
    · exact .inl e
    · exact .inr (s1 start i h1 (by omega) i2)
  have k2 : j = end' - 1 ∨ R (z j) (z (end' - 1)) := by
    by_cases e : j = end' - 1
    · exact .inl e
    · exact .inr (s2 j (end' - 1) j1 (by omega) (by omega))
  rcases k1 with e1 | e1 <;> rcases k2 with e2 | e2
  · rw [e1, e2]; exact h0
  · rw [e1]; exact tr _ _ _ e2 h0
  · rw [e2]; exact tr _ _ _ h0 e1
  · exact tr _ _ _ (tr _ _ _ e2 h0) e1
/-- the rotation's loop: what is left to rotate, i places ahead of m and j behind -/
def RotI (z T : Nat → Int) (m i j : Nat) : Prop := (∀ x, x < j → T (m - i + x) = z (m + x)) ∧ (∀ x, x < i → T (m - i + j + x) = z (m - i + x)) ∧ ∀ x, x < m - i ∨ m + j ≤ x → T x = z x
theorem RotI.left {z z' T : Nat → Int} {m i j : Nat} (h : RotI z T m i j) (hi : i ≤ m) (hij : j < i) (hs : SwapO z z' (m - i) m j) : RotI z' T m (i - j) j := by
  obtain ⟨h1, h2, h3⟩ := h
  obtain ⟨s1, s2⟩ := hs
  refine ⟨fun x hx => ?_, fun x hx => ?_, fun x hx => ?_⟩
  · rw [(s1 x hx).2, show m - (i - j) + x = m - i + j + x by omega, h2 x (by omega)]
  · rw [show m - (i - j) + j + x = m - i + j + (j + x) by omega, h2 (j + x) (by omega), s2 (m - (i - j) + x) (by omega) (by omega), show m - (i - j) + x = m - i + (j + x) by omega]
  · by_cases hx2 : m - i ≤ x ∧ x < m - i + j
    · have := h1 (x - (m - i)) (by omega)
      rw [show m - i + (x - (m - i)) = x by omega] at this
      rw [this]
      have := (s1 (x - (m - i)) (by omega)).1
      rw [show m - i + (x - (m - i)) = x by omega] at this
      exact this.symm
    · rw [s2 x (by omega) (by omega)]
      exact h3 x (by omega)
theorem RotI.right {z z' T : Nat → Int} {m i j : Nat} (h : RotI z T m i j) (hi : i ≤ m) (hij : i < j) (hs : SwapO z z' (m - i) (m + j - i) i) : RotI z' T m i (j - i) := by
  obtain ⟨h1, h2, h3⟩ := h
  obtain ⟨s1, s2⟩ := hs
  refine ⟨fun x hx => ?_, fun x hx => ?_, fun x hx => ?_⟩
  · rw [h1 x (by omega), s2 (m + x) (by omega) (by omega)]
  · rw [(s1 x hx).1, show m - i + (j - i) + x = m - i + ((j - i) + x) by omega, h1 ((j - i) + x) (by omega), show m + ((j - i) + x) = m + j - i + x by omega]
  · by_cases hx2 : m + j - i ≤ x ∧ x < m + j
    · have := h2 (x - (m + j - i)) (by omega)
      rw [show m - i + j + (x - (m + j - i)) = x by omega] at this
      rw [this]
      have := (s1 (x - (m + j - i)) (by omega)).2
      rw [show m + j - i + (x - (m + j - i)) = x by omega] at this
      exact this.symm
    · rw [s2 x (by omega) (by omega)]
      exact h3 x (by omega)
theorem RotI.done {z z' T : Nat → Int} {m i : Nat} (h : RotI z T m i i) (hi : i ≤ m) (hs : SwapO z z' (m - i) m i) : z' = T := by
  obtain ⟨h1, h2, h3⟩ := h
  obtain ⟨s1, s2⟩ := hs
  funext x
  by_cases hx : m - i ≤ x ∧ x < m
  · have e1 := h1 (x - (m - i)) (by omega)
    have e2 := (s1 (x - (m - i)) (by omega)).1
    rw [show m - i + (x - (m - i)) = x by omega] at e1 e2
    rw [e1, e2]
  · by_cases hx2 : m ≤ x ∧ x < m + i
    · have e1 := h2 (x - m) (by omega)
      have e2 := (s1 (x - m) (by omega)).2
      rw [show m - i + i + (x - m) = x by omega] at e1
      rw [show m + (x - m) = x by omega] at e2
      rw [e1, e2]
    · rw [s2 x (by omega) (by omega), h3 x (by omega)]
/-- the rotated function -/
def rotF (z : Nat → Int) (a m b : Nat) (x : Nat) : Int := if x < a ∨ b ≤ x then z x else if x - a < b - m then z (m + (x - a)) else z (a + (x - a - (b - m)))
theorem rotF_start {z : Nat → Int} {a m b : Nat} (h1 : a ≤ m) (h2 : m ≤ b) : RotI z (rotF z a m b) m (m - a) (b - m) := by
  refine ⟨fun x hx => ?_, fun x hx => ?_, fun x hx => ?_⟩
  · unfold rotF
    rw [if_neg (by omega), if_pos (by omega), show m + (m - (m - a) + x - a) = m + x by omega]
  · unfold rotF
    rw [if_neg (by omega), if_neg (by omega), show a + (m - (m - a) + (b - m) + x - a - (b - m)) = m - (m - a) + x by omega]
  · unfold rotF
    rw [if_pos (by omega)]
theorem rotF_rot (z : Nat → Int) {a m b : Nat} (h1 : a ≤ m) (h2 : m ≤ b) : RotO z (rotF z a m b) a m b := by
  refine ⟨fun x hx => ?_, fun x hx => ?_, fun x hx => ?_⟩
  · unfold rotF
    rw [if_neg (by omega), if_pos (by omega), show m + (a + x - a) = m + x by omega]
  · unfold rotF
    rw [if_neg (by omega), if_neg (by omega), show a + (a + (b - m) + x - a - (b - m)) = a + x by omega]
  · unfold rotF
    rw [if_pos hx]
end Go.Proofs.Ytkodnagneblgaaa
