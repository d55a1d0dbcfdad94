/- Plain: the ways of the library's merge. -/
import Derived.Test.YtkodnagneblgaaaB1
namespace Go.Proofs.Ytkodnagneblgaaa
/-- what is asked of the order: it is transitive, and of two numbers one comes first -/
structure Ord (R : Int → Int → Prop) (D : Int → Prop) : Prop where
  tr : ∀ x y z, R x y → R y z → R x z
  tot : ∀ x y, D x → D y → x < y → R x y ∨ R y x
/-- all members stand in the domain -/
def DomO (D : Int → Prop) (z : Nat → Int) (a b : Nat) : Prop := ∀ i, a ≤ i → i < b → D (z i)
theorem DomO.mem {D : Int → Prop} {z z' : Nat → Int} {a b : Nat} (h : DomO D z a b) (hm : MemO z z' a b) : DomO D z' a b := fun i h1 h2 => by
  obtain ⟨j, j1, j2, e⟩ := hm.1 i h1 h2
  rw [e]
  exact h j j1 j2
variable {R : Int → Int → Prop} {D : Int → Prop}
/-- the single one on the left goes behind those that come first -/
theorem merge_left (ho : Ord R D) {z z' : Nat → Int} {a i b : Nat} (hi : a + 1 ≤ i) (hb : i ≤ b) (s2 : SortO R z (a + 1) b) (hc : CrossO z a (a + 1) b) (hd : DomO D z a b)
    (h1 : i = a + 1 ∨ R (z (i - 1)) (z a)) (h2 : i = b ∨ ¬ R (z i) (z a)) (hr : RotO z z' a (a + 1) i) : SortO R z' a b ∧ MemO z z' a b ∧ SameO z z' a b := by
  have H1 : ∀ k, a + 1 ≤ k → k < i → R (z k) (z a) := fun k k1 k2 => by
    rcases h1 with h | h
    · omega
    · by_cases e : k = i - 1
      · rw [e]; exact h
      · exact ho.tr _ _ _ (s2 k (i - 1) k1 (by omega) (by omega)) h
  have H2 : ∀ k, i ≤ k → k < b → R (z a) (z k) := fun k k1 k2 => by
    rcases h2 with h | h
    · omega
    · have hi2 : R (z a) (z i) := by
        rcases ho.tot (z a) (z i) (hd a (Nat.le_refl _) (by omega)) (hd i (by omega) (by omega)) (hc a i (Nat.le_refl _) (by omega) (by omega) (by omega)) with t | t
        · exact t
        · exact absurd t h
      by_cases e : k = i
      · rw [e]; exact hi2
      · exact ho.tr _ _ _ hi2 (s2 i k hi (by omega) k2)
  have r1 : ∀ x, x < i - (a + 1) → z' (a + x) = z (a + 1 + x) := hr.1
  have r2 : z' (a + (i - (a + 1))) = z a := by
    have := hr.2.1 0 (by omega)
    simpa using this
  refine ⟨fun p q hp hpq hq => ?_, (hr.mem (by omega) hi).widen hr.2.2 (Nat.le_refl _) hb, hr.2.2.widen (Nat.le_refl _) hb⟩
  have at_ : ∀ p, a ≤ p → p < b → (p < i - 1 ∧ z' p = z (p + 1)) ∨ (p = i - 1 ∧ z' p = z a) ∨ (i ≤ p ∧ z' p = z p) := fun p p1 p2 => by
    by_cases c1 : p < i - 1
    · refine .inl ⟨c1, ?_⟩
      have := r1 (p - a) (by omega)
      rwa [show a + (p - a) = p by omega, show a + 1 + (p - a) = p + 1 by omega] at this
    · by_cases c2 : p = i - 1
      · refine .inr (.inl ⟨c2, ?_⟩)
        rw [c2, show i - 1 = a + (i - (a + 1)) by omega]
        exact r2
      · exact .inr (.inr ⟨by omega, hr.2.2 p (.inr (by omega))⟩)
  rcases at_ p hp (by omega) with ⟨c, e⟩ | ⟨c, e⟩ | ⟨c, e⟩ <;> rcases at_ q (by omega) hq with ⟨c', e'⟩ | ⟨c', e'⟩ | ⟨c', e'⟩ <;> rw [e, e']
  · exact s2 _ _ (by omega) (by omega) (by omega)
  · exact H1 _ (by omega) (by omega)
  · exact s2 _ _ (by omega) (by omega) (by omega)
  · omega
  · omega
  · exact H2 _ c' hq
  · omega
  · omega
  · exact s2 _ _ (by omega) hpq hq
/-- the single one on the right goes ahead of those that come later -/
theorem merge_right (ho : Ord R D) {z z' : Nat → Int} {a i m : Nat} (hi : a ≤ i) (hm : i ≤ m) (s1 : SortO R z a m) (hc : CrossO z a m (m + 1)) (hd : DomO D z a (m + 1))
    (h1 : i = a ∨ ¬ R (z m) (z (i - 1))) (h2 : i = m ∨ R (z m) (z i)) (hr : RotO z z' i m (m + 1)) : SortO R z' a (m + 1) ∧ MemO z z' a (m + 1) ∧ SameO z z' a (m + 1) := by
  have H1 : ∀ k, a ≤ k → k < i → R (z k) (z m) := fun k k1 k2 => by
    rcases h1 with h | h
    · omega
    · have hi2 : R (z (i - 1)) (z m) := by
        rcases ho.tot (z (i - 1)) (z m) (hd _ (by omega) (by omega)) (hd m (by omega) (by omega)) (hc (i - 1) m (by omega) (by omega) (Nat.le_refl _) (by omega)) with t | t
        · exact t
        · exact absurd t h
      by_cases e : k = i - 1
      · rw [e]; exact hi2
      · exact ho.tr _ _ _ (s1 k (i - 1) k1 (by omega) (by omega)) hi2
  have H2 : ∀ k, i ≤ k → k < m → R (z m) (z k) := fun k k1 k2 => by
    rcases h2 with h | h
    · omega
    · by_cases e : k = i
      · rw [e]; exact h
      · exact ho.tr _ _ _ h (s1 i k hi (by omega) k2)
  have r1 : z' i = z m := by
    have := hr.1 0 (by omega)
    simpa using this
  have r2 : ∀ x, x < m - i → z' (i + 1 + x) = z (i + x) := fun x hx => by
    have := hr.2.1 x hx
    rwa [show i + (m + 1 - m) + x = i + 1 + x by omega] at this
  refine ⟨fun p q hp hpq hq => ?_, (hr.mem hm (by omega)).widen hr.2.2 hi (Nat.le_refl _), hr.2.2.widen hi (Nat.le_refl _)⟩
  have at_ : ∀ p, a ≤ p → p < m + 1 → (p < i ∧ z' p = z p) ∨ (p = i ∧ z' p = z m) ∨ (i < p ∧ z' p = z (p - 1)) := fun p p1 p2 => by
    by_cases c1 : p < i
    · exact .inl ⟨c1, hr.2.2 p (.inl c1)⟩
    · by_cases c2 : p = i
      · exact .inr (.inl ⟨c2, by rw [c2]; exact r1⟩)
      · refine .inr (.inr ⟨by omega, ?_⟩)
        have := r2 (p - (i + 1)) (by omega)
        rwa [show i + 1 + (p - (i + 1)) = p by omega, show i + (p - (i + 1)) = p - 1 by omega] at this
  rcases at_ p hp (by omega) with ⟨c, e⟩ | ⟨c, e⟩ | ⟨c, e⟩ <;> rcases at_ q (by omega) hq with ⟨c', e'⟩ | ⟨c', e'⟩ | ⟨c', e'⟩ <;> rw [e, e']
  · exact s1 _ _ hp hpq (by omega)
  · exact H1 _ hp c
  · exact s1 _ _ hp (by omega) (by omega)
  · omega
  · omega
  · exact H2 _ (by omega) (by omega)
  · omega
  · omega
  · exact s1 _ _ (by omega) (by omega) (by omega)
/-- behind the rotation: the two parts are sorted, and stand crosswise -/
theorem sym_parts {z z1 : Nat → Int} {a start m end' b mid : Nat} (h1 : a ≤ start) (h2 : start ≤ m) (h3 : m ≤ end') (h4 : end' ≤ b) (h5 : end' - m + start = mid)
    (s1 : SortO R z a m) (s2 : SortO R z m b) (hc : CrossO z a m b) (hr : RotO z z1 start m end') :
    SortO R z1 a start ∧ SortO R z1 start mid ∧ CrossO z1 a start mid ∧ SortO R z1 mid end' ∧ SortO R z1 end' b ∧ CrossO z1 mid end' b := by
  have eo : ∀ i, i < start ∨ end' ≤ i → z1 i = z i := fun i hi => hr.2.2 i hi
  have el : ∀ i, start ≤ i → i < mid → z1 i = z (m + (i - start)) := fun i i1 i2 => by
    have := hr.1 (i - start) (by omega)
    rwa [show start + (i - start) = i by omega] at this
  have er : ∀ i, mid ≤ i → i < end' → z1 i = z (start + (i - mid)) := fun i i1 i2 => by
    have := hr.2.1 (i - mid) (by omega)
    rwa [show start + (end' - m) + (i - mid) = i by omega] at this
  refine ⟨fun i j i1 ij j1 => ?_, fun i j i1 ij j1 => ?_, fun i j i1 i2 j1 j2 => ?_, fun i j i1 ij j1 => ?_, fun i j i1 ij j1 => ?_, fun i j i1 i2 j1 j2 => ?_⟩
  · rw [eo i (.inl (by omega)), eo j (.inl (by omega))]
    exact s1 i j i1 ij (by omega)
  · rw [el i i1 (by omega), el j (by omega) j1]
    exact s2 _ _ (by omega) (by omega) (by omega)
  · rw [eo i (.inl i2), el j j1 j2]
    exact hc _ _ i1 (by omega) (by omega) (by omega)
  · rw [er i i1 (by omega), er j (by omega) j1]
    exact s1 _ _ (by omega) (by omega) (by omega)
  · rw [eo i (.inr i1), eo j (.inr (by omega))]
    exact s2 _ _ (by omega) ij j1
  · rw [er i i1 i2, eo j (.inr j1)]
    exact hc _ _ (by omega) (by omega) (by omega) j2
theorem SortO.congr {z z' : Nat → Int} {a b : Nat} (h : SortO R z a b) (e : ∀ i, a ≤ i → i < b → z' i = z i) : SortO R z' a b := fun i j i1 ij j1 => by
  rw [e i i1 (by omega), e j (by omega) j1]; exact h i j i1 ij j1
theorem CrossO.congr {z z' : Nat → Int} {a m b : Nat} (h : CrossO z a m b) (e : ∀ i, a ≤ i → i < b → z' i = z i) (hm : a ≤ m) (_hb : m ≤ b) : CrossO z' a m b := fun i j i1 i2 j1 j2 => by
  rw [e i i1 (by omega), e j (by omega) j2]; exact h i j i1 i2 j1 j2
theorem SortO.short {z : Nat → Int} {a b : Nat} (h : b ≤ a + 1) : SortO R z a b := fun i j i1 ij j1 => by omega
/-- one step of moving a member behind -/
theorem RotO.grow {z z' : Nat → Int} {d : Nat → Int} {a k : Nat} (h : RotO z z' a (a + 1) (k + 1)) (hk : a ≤ k) (h1 : d k = z' (k + 1)) (h2 : d (k + 1) = z' k) (h3 : ∀ i, i ≠ k → i ≠ k + 1 → d i = z' i) : RotO z d a (a + 1) (k + 2) := by
  obtain ⟨r1, r2, r3⟩ := h
  have hz := r2 0 (by omega)
  refine ⟨fun x hx => ?_, fun x hx => ?_, fun i hi => ?_⟩
  · by_cases e : a + x = k
    · rw [e, h1, r3 (k + 1) (.inr (Nat.le_refl _)), show a + 1 + x = k + 1 by omega]
    · rw [h3 _ e (by omega)]
      exact r1 x (by omega)
  · obtain rfl : x = 0 := by omega
    rw [show a + (k + 2 - (a + 1)) + 0 = k + 1 by omega, h2]
    rw [show a + (k + 1 - (a + 1)) + 0 = k by omega] at hz
    exact hz
  · rw [h3 i (by omega) (by omega)]
    exact r3 i (by omega)
/-- one step of moving a member ahead -/
theorem RotO.back {z z' : Nat → Int} {d : Nat → Int} {k m : Nat} (h : RotO z z' (k + 1) m (m + 1)) (hk : k < m) (h1 : d k = z' (k + 1)) (h2 : d (k + 1) = z' k) (h3 : ∀ i, i ≠ k → i ≠ k + 1 → d i = z' i) : RotO z d k m (m + 1) := by
  obtain ⟨r1, r2, r3⟩ := h
  have hz := r1 0 (by omega)
  refine ⟨fun x hx => ?_, fun x hx => ?_, fun i hi => ?_⟩
  · obtain rfl : x = 0 := by omega
    rw [Nat.add_zero, h1]
    simpa using hz
  · by_cases e : x = 0
    · subst e
      rw [show k + (m + 1 - m) + 0 = k + 1 by omega, h2, r3 k (.inl (by omega))]
      rfl
    · rw [h3 _ (by omega) (by omega)]
      have := r2 (x - 1) (by omega)
      rwa [show k + 1 + (m + 1 - m) + (x - 1) = k + (m + 1 - m) + x by omega, show k + 1 + (x - 1) = k + x by omega] at this
  · rw [h3 i (by omega) (by omega)]
    exact r3 i (by omega)
end Go.Proofs.Ytkodnagneblgaaa
