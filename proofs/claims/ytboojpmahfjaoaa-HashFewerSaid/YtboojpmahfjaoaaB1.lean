/- Plain: insertion into a sorted prefix, buckets with more keys first. -/
namespace Go.Proofs.Ytboojpmahfjaoaa.Ins

/-- x ahead of y: more keys, or as many and the less index -/
def R (ln : Nat → Nat) (x y : Nat) : Prop := ln y < ln x ∨ (ln x = ln y ∧ x < y)

theorem R.trans {ln : Nat → Nat} {x y z : Nat} (h : R ln x y) (k : R ln y z) : R ln x z := by unfold R at *; omega
theorem R.irrefl {ln : Nat → Nat} {x : Nat} (h : R ln x x) : False := by unfold R at h; omega
theorem R.asymm {ln : Nat → Nat} {x y : Nat} (h : R ln x y) (k : R ln y x) : False := (h.trans k).irrefl

def swap (a : Nat → Nat) (i j : Nat) : Nat → Nat := fun p => if p = i then a j else if p = j then a i else a p

/-- at the head of the outer loop -/
structure Out (ln : Nat → Nat) (m i : Nat) (a : Nat → Nat) : Prop where
  sorted : ∀ p q, p < q → q < i → R ln (a p) (a q)
  rest : ∀ p, i ≤ p → p < m → a p = p
  lt : ∀ p, p < i → a p < i
  onto : ∀ b, b < i → ∃ p, p < i ∧ a p = b

/-- at the head of the inner loop -/
structure Inn (ln : Nat → Nat) (m i j : Nat) (a : Nat → Nat) : Prop where
  le : j ≤ i
  here : a j = i
  sorted : ∀ p q, p < q → q ≤ i → p ≠ j → q ≠ j → R ln (a p) (a q)
  less : ∀ q, j < q → q ≤ i → ln (a q) < ln i
  rest : ∀ p, i < p → p < m → a p = p
  lt : ∀ p, p ≤ i → p ≠ j → a p < i
  onto : ∀ b, b < i → ∃ p, p ≤ i ∧ p ≠ j ∧ a p = b

theorem Out.start (ln : Nat → Nat) (m : Nat) : Out ln m 0 id :=
  ⟨fun _ _ _ h => by omega, fun _ _ _ => rfl, fun _ h => by omega, fun _ h => by omega⟩
theorem Out.one (ln : Nat → Nat) (m : Nat) : Out ln m 1 id :=
  ⟨fun _ _ _ h => by omega, fun _ _ _ => rfl, fun p h => by show p < 1; omega, fun b h => ⟨b, h, rfl⟩⟩

theorem Out.inn {ln : Nat → Nat} {m i : Nat} {a : Nat → Nat} (h : Out ln m i a) (hi : i < m) : Inn ln m i i a :=
  ⟨Nat.le_refl _, h.rest i (Nat.le_refl _) hi, fun p q hpq hq hp hq' => h.sorted p q hpq (by omega), fun q h1 h2 => by omega, fun p h1 h2 => h.rest p (by omega) h2,
    fun p h1 h2 => h.lt p (by omega), fun b hb => by obtain ⟨p, h1, h2⟩ := h.onto b hb; exact ⟨p, by omega, by omega, h2⟩⟩

theorem Inn.swap {ln : Nat → Nat} {m i j : Nat} {a : Nat → Nat} (h : Inn ln m i j a) (hj : 0 < j) (hc : ln (a (j - 1)) < ln i) : Inn ln m i (j - 1) (swap a j (j - 1)) := by
  have hle := h.le
  have hh := h.here
  have e0 : ∀ p, p ≠ j → p ≠ j - 1 → Ins.swap a j (j - 1) p = a p := fun p h1 h2 => by simp [Ins.swap, h1, h2]
  have e1 : Ins.swap a j (j - 1) j = a (j - 1) := by simp [Ins.swap]
  have e2 : Ins.swap a j (j - 1) (j - 1) = i := by
    have : j - 1 ≠ j := by omega
    simp [Ins.swap, this, hh]
  refine ⟨by omega, e2, fun p q hpq hq hp hq' => ?_, fun q h1 h2 => ?_, fun p h1 h2 => ?_, fun p h1 h2 => ?_, fun b hb => ?_⟩
  · by_cases hpj : p = j
    · subst hpj
      rw [e1, e0 q (by omega) (by omega)]
      exact h.sorted (p - 1) q (by omega) hq (by omega) (by omega)
    · by_cases hqj : q = j
      · subst hqj
        rw [e1, e0 p (by omega) (by omega)]
        exact h.sorted p (q - 1) (by omega) (by omega) (by omega) (by omega)
      · rw [e0 p hpj hp, e0 q hqj hq']
        exact h.sorted p q hpq hq hpj hqj
  · by_cases hqj : q = j
    · subst hqj; rw [e1]; exact hc
    · rw [e0 q hqj (by omega)]; exact h.less q (by omega) h2
  · rw [e0 p (by omega) (by omega)]; exact h.rest p h1 h2
  · by_cases hpj : p = j
    · subst hpj; rw [e1]; exact h.lt (p - 1) (by omega) (by omega)
    · rw [e0 p hpj h2]; exact h.lt p h1 hpj
  · obtain ⟨p, h1, h2, h3⟩ := h.onto b hb
    by_cases hp1 : p = j - 1
    · subst hp1; exact ⟨j, hle, by omega, by rw [e1]; exact h3⟩
    · exact ⟨p, h1, hp1, by rw [e0 p h2 hp1]; exact h3⟩

theorem Inn.out {ln : Nat → Nat} {m i j : Nat} {a : Nat → Nat} (h : Inn ln m i j a) (hc : j = 0 ∨ ln i ≤ ln (a (j - 1))) : Out ln m (i + 1) a := by
  have hle := h.le
  have hh := h.here
  refine ⟨fun p q hpq hq => ?_, fun p h1 h2 => h.rest p (by omega) h2, fun p hp => ?_, fun b hb => ?_⟩
  · by_cases hpj : p = j
    · subst hpj
      rw [hh]
      exact .inl (h.less q hpq (by omega))
    · by_cases hqj : q = j
      · subst hqj
        rw [hh]
        rcases hc with hc | hc
        · omega
        · have hlt := h.lt p (by omega) hpj
          by_cases hp1 : p = q - 1
          · subst hp1; unfold R; omega
          · have := h.sorted p (q - 1) (by omega) (by omega) hpj (by omega)
            unfold R at *; omega
      · exact h.sorted p q hpq (by omega) hpj hqj
  · by_cases hpj : p = j
    · subst hpj; omega
    · have := h.lt p (by omega) hpj; omega
  · by_cases hbi : b = i
    · exact ⟨j, by omega, by rw [hh, hbi]⟩
    · obtain ⟨p, h1, h2, h3⟩ := h.onto b (by omega)
      exact ⟨p, by omega, h3⟩

/-- two lists in the same strict order with the same members are one -/
theorem sorted_eq (ln : Nat → Nat) : ∀ (l k : List Nat), l.Pairwise (R ln) → k.Pairwise (R ln) → (∀ x, x ∈ l ↔ x ∈ k) → l = k
  | [], [], _, _, _ => rfl
  | [], y :: k, _, _, h => by have := (h y).2 (by simp); cases this
  | x :: l, [], _, _, h => by have := (h x).1 (by simp); cases this
  | x :: l, y :: k, hl, hk, h => by
    rw [List.pairwise_cons] at hl hk
    have hxy : x = y := by
      rcases List.mem_cons.1 ((h x).1 (by simp)) with e | e
      · exact e
      · rcases List.mem_cons.1 ((h y).2 (by simp)) with e' | e'
        · exact e'.symm
        · exact ((hk.1 x e).asymm (hl.1 y e')).elim
    subst hxy
    congr 1
    refine sorted_eq ln l k hl.2 hk.2 (fun z => ⟨fun hz => ?_, fun hz => ?_⟩)
    · rcases List.mem_cons.1 ((h z).1 (by simp [hz])) with e | e
      · subst e; exact (hl.1 z hz).irrefl.elim
      · exact e
    · rcases List.mem_cons.1 ((h z).2 (by simp [hz])) with e | e
      · subst e; exact (hk.1 z hz).irrefl.elim
      · exact e
end Go.Proofs.Ytboojpmahfjaoaa.Ins
