/- Plain: days of the Gregorian calendar. -/
import Derived.Lib.Hide
namespace Go.Proofs.YtaolbfbnjbpljaaDoor

def leapB (y : Nat) : Bool := (y % 4 == 0 && y % 100 != 0) || y % 400 == 0
def ylen (y : Nat) : Nat := if leapB y then 366 else 365
def mtab : List Nat := [31, 28, 31, 30, 31, 30, 31, 31, 30, 31, 30, 31]
def mlen (y m : Nat) : Nat := if m = 2 ∧ leapB y = true then 29 else mtab.getD (m - 1) 0
/-- the days before the year 1900 + j -/
def dby : Nat → Nat
  | 0 => 0
  | j + 1 => dby j + ylen (1900 + j)
/-- the days of a year before its month j + 1 -/
def cum (y : Nat) : Nat → Nat
  | 0 => 0
  | j + 1 => cum y j + mlen y (j + 1)
def vldP (y m d : Nat) : Prop := 1900 ≤ y ∧ y ≤ 2199 ∧ 1 ≤ m ∧ m ≤ 12 ∧ 1 ≤ d ∧ d ≤ mlen y m
/-- the number of days from 1900-01-01 on -/
def num (y m d : Nat) : Nat := dby (y - 1900) + cum y (m - 1) + (d - 1)

theorem ylen_bd (y : Nat) : 365 ≤ ylen y ∧ ylen y ≤ 366 := by unfold ylen; split <;> omega
theorem mlen_bd {y m : Nat} (h1 : 1 ≤ m) (h2 : m ≤ 12) : 28 ≤ mlen y m ∧ mlen y m ≤ 31 := by
  unfold mlen
  split
  · omega
  · have : ∀ k : Fin 12, 28 ≤ mtab.getD k.1 0 ∧ mtab.getD k.1 0 ≤ 31 := by decide
    exact this ⟨m - 1, by omega⟩
theorem cum_year (y : Nat) : cum y 12 = ylen y := by
  simp only [cum, mlen, mtab, ylen]
  cases leapB y <;> decide
theorem dby_all : dby 300 = 109573 := by decide +kernel
theorem dby_mono {i j : Nat} (h : i ≤ j) : dby i ≤ dby j := by
  induction j with
  | zero => have : i = 0 := by omega
            rw [this]; exact Nat.le_refl _
  | succ j ih =>
    rcases Nat.lt_or_ge i (j + 1) with h1 | h1
    · have := ih (by omega); rw [dby]; omega
    · have : i = j + 1 := by omega
      rw [this]; exact Nat.le_refl _
theorem cum_mono {y i j : Nat} (h : i ≤ j) : cum y i ≤ cum y j := by
  induction j with
  | zero => have : i = 0 := by omega
            rw [this]; exact Nat.le_refl _
  | succ j ih =>
    rcases Nat.lt_or_ge i (j + 1) with h1 | h1
    · have := ih (by omega); rw [cum]; omega
    · have : i = j + 1 := by omega
      rw [this]; exact Nat.le_refl _
theorem cum_in {y m d : Nat} (h : vldP y m d) : cum y (m - 1) + (d - 1) < cum y m ∧ cum y m ≤ ylen y := by
  obtain ⟨_, _, h1, h2, h3, h4⟩ := h
  obtain ⟨k, rfl⟩ : ∃ k, m = k + 1 := ⟨m - 1, by omega⟩
  rw [Nat.add_sub_cancel]
  refine ⟨by rw [cum]; omega, ?_⟩
  rw [← cum_year]
  exact cum_mono h2
theorem num_in {y m d : Nat} (h : vldP y m d) : dby (y - 1900) ≤ num y m d ∧ num y m d < dby (y - 1900 + 1) := by
  have h1 := cum_in h
  unfold num
  rw [dby, show 1900 + (y - 1900) = y by have := h.1; omega]
  omega
theorem num_lt {y m d : Nat} (h : vldP y m d) : num y m d < 109573 := by
  have h1 := (num_in h).2
  have h2 : dby (y - 1900 + 1) ≤ dby 300 := dby_mono (by have := h.2.1; omega)
  rw [dby_all] at h2
  omega
theorem num_year {y m d y' m' d' : Nat} (h : vldP y m d) (h' : vldP y' m' d') (hl : y < y') : num y m d < num y' m' d' := by
  have h1 := (num_in h).2
  have h2 := (num_in h').1
  have h3 : dby (y - 1900 + 1) ≤ dby (y' - 1900) := dby_mono (by have := h.1; omega)
  omega
theorem num_month {y m d m' d' : Nat} (h : vldP y m d) (_h' : vldP y m' d') (hl : m < m') : num y m d < num y m' d' := by
  have h1 := (cum_in h).1
  have h2 : cum y m ≤ cum y (m' - 1) := cum_mono (by omega)
  unfold num
  omega
theorem num_day {y m d d' : Nat} (h : vldP y m d) (hl : d < d') : num y m d < num y m d' := by
  have := h.2.2.2.2.1
  unfold num
  omega
/-- the order of dates -/
theorem num_lt_iff {y m d y' m' d' : Nat} (h : vldP y m d) (h' : vldP y' m' d') : num y m d < num y' m' d' ↔ y < y' ∨ (y = y' ∧ (m < m' ∨ (m = m' ∧ d < d'))) := by
  constructor
  · intro hl
    rcases Nat.lt_trichotomy y y' with e | e | e
    · exact .inl e
    · subst e
      refine .inr ⟨rfl, ?_⟩
      rcases Nat.lt_trichotomy m m' with e | e | e
      · exact .inl e
      · subst e
        refine .inr ⟨rfl, ?_⟩
        rcases Nat.lt_trichotomy d d' with e | e | e
        · exact e
        · subst e; omega
        · have := num_day h' e; omega
      · have := num_month h' h e; omega
    · have := num_year h' h e; omega
  · rintro (e | ⟨rfl, e | ⟨rfl, e⟩⟩)
    · exact num_year h h' e
    · exact num_month h h' e
    · exact num_day h e
theorem num_inj {y m d y' m' d' : Nat} (h : vldP y m d) (h' : vldP y' m' d') (e : num y m d = num y' m' d') : y = y' ∧ m = m' ∧ d = d' := by
  have h1 := num_lt_iff h h'
  have h2 := num_lt_iff h' h
  have h3 : ¬ num y m d < num y' m' d' := by omega
  have h4 : ¬ num y' m' d' < num y m d := by omega
  rw [h1] at h3
  rw [h2] at h4
  omega

/-- each number in the range is that of a date -/
theorem civil_ex {n : Nat} (h : n < 109573) : ∃ y m d, vldP y m d ∧ num y m d = n := by
  have hy : ∀ k, n < dby k → ∃ j, j < k ∧ dby j ≤ n ∧ n < dby (j + 1) := by
    intro k
    induction k with
    | zero => intro h; simp [dby] at h
    | succ k ih =>
      intro hk
      by_cases h1 : n < dby k
      · obtain ⟨j, hj, h2⟩ := ih h1
        exact ⟨j, by omega, h2⟩
      · exact ⟨k, by omega, by omega, hk⟩
  obtain ⟨j, hj, h1, h2⟩ := hy 300 (by rw [dby_all]; exact h)
  rw [dby] at h2
  have hm : ∀ k, n - dby j < cum (1900 + j) k → ∃ i, i < k ∧ cum (1900 + j) i ≤ n - dby j ∧ n - dby j < cum (1900 + j) (i + 1) := by
    intro k
    induction k with
    | zero => intro h; simp [cum] at h
    | succ k ih =>
      intro hk
      by_cases h1 : n - dby j < cum (1900 + j) k
      · obtain ⟨i, hi, h2⟩ := ih h1
        exact ⟨i, by omega, h2⟩
      · exact ⟨k, by omega, by omega, hk⟩
  obtain ⟨i, hi, h3, h4⟩ := hm 12 (by rw [cum_year]; omega)
  rw [cum] at h4
  refine ⟨1900 + j, i + 1, n - dby j - cum (1900 + j) i + 1, ⟨by omega, by omega, by omega, by omega, by omega, by omega⟩, ?_⟩
  unfold num
  rw [show 1900 + j - 1900 = j by omega, Nat.add_sub_cancel, Nat.add_sub_cancel]
  omega
end Go.Proofs.YtaolbfbnjbpljaaDoor
