/- Plain: the fields of a skeleton and of a pattern. -/
import Derived.Lib.Hide
import Derived.Below
namespace Go.Proofs.YtaolbfbnjbpljaaDoor

/-- the letters of fields: y M E d -/
def kindsL : List UInt8 := [121, 77, 69, 100]
/-- the fields: y M MM MMM E d dd -/
def fieldL : List (List UInt8) := [[121], [77], [77, 77], [77, 77, 77], [69], [100], [100, 100]]
def isFld (f : List UInt8) : Bool := fieldL.contains f
/-- one kind: what is found, what is left -/
def stepF (k : UInt8) (st : List (List UInt8) × List UInt8) : Option (List (List UInt8) × List UInt8) :=
  if st.2.takeWhile (· == k) = [] then some st
  else if isFld (st.2.takeWhile (· == k)) then some (st.1 ++ [st.2.takeWhile (· == k)], st.2.dropWhile (· == k)) else none
/-- behind the first i kinds -/
def stF (s : List UInt8) : Nat → Option (List (List UInt8) × List UInt8)
  | 0 => some ([], s)
  | i + 1 => (stF s i).bind (stepF (kindsL.getD i 0))
def fieldsV (s : List UInt8) : Option (List (List UInt8)) :=
  match stF s 4 with
  | some (out, rest) => if rest = [] ∧ out ≠ [] then some out else none
  | none => none

theorem stF_skip {s : List UInt8} {i : Nat} {o r} (h : stF s i = some (o, r)) (h1 : r.takeWhile (· == kindsL.getD i 0) = []) : stF s (i + 1) = some (o, r) := by
  rw [stF, h]; show stepF _ (o, r) = _; unfold stepF; rw [if_pos h1]
theorem stF_take {s : List UInt8} {i : Nat} {o r} (h : stF s i = some (o, r)) (h1 : r.takeWhile (· == kindsL.getD i 0) ≠ []) (h2 : isFld (r.takeWhile (· == kindsL.getD i 0)) = true) :
    stF s (i + 1) = some (o ++ [r.takeWhile (· == kindsL.getD i 0)], r.dropWhile (· == kindsL.getD i 0)) := by
  rw [stF, h]; show stepF _ (o, r) = _; unfold stepF; rw [if_neg h1, if_pos h2]
theorem stF_fail {s : List UInt8} {i : Nat} {o r} (h : stF s i = some (o, r)) (h1 : r.takeWhile (· == kindsL.getD i 0) ≠ []) (h2 : isFld (r.takeWhile (· == kindsL.getD i 0)) = false) :
    stF s (i + 1) = none := by
  rw [stF, h]; show stepF _ (o, r) = _; unfold stepF; rw [if_neg h1, if_neg (by rw [h2]; simp)]
theorem stF_none {s : List UInt8} {i : Nat} (h : stF s i = none) (j : Nat) : stF s (i + j) = none := by
  induction j with
  | zero => exact h
  | succ j ih => rw [← Nat.add_assoc, stF, ih]; rfl
theorem fieldsV_fail {s : List UInt8} {i : Nat} (hi : i ≤ 4) (h : stF s i = none) : fieldsV s = none := by
  unfold fieldsV
  have := stF_none h (4 - i)
  rw [show i + (4 - i) = 4 by omega] at this
  rw [this]
theorem fieldsV_end {s : List UInt8} {o r} (h : stF s 4 = some (o, r)) : fieldsV s = if r = [] ∧ o ≠ [] then some o else none := by
  unfold fieldsV; rw [h]
theorem stF_len {s : List UInt8} : ∀ {i : Nat} {o r}, stF s i = some (o, r) → o.length ≤ i ∧ r.length ≤ s.length ∧ ∀ f ∈ o, isFld f = true
  | 0, o, r, h => by simp [stF] at h; obtain ⟨rfl, rfl⟩ := h; simp
  | i + 1, o, r, h => by
    rw [stF] at h
    cases hs : stF s i with
    | none => rw [hs] at h; cases h
    | some st =>
      obtain ⟨o', r'⟩ := st
      have ih := stF_len hs
      rw [hs] at h
      change stepF _ (o', r') = some (o, r) at h
      unfold stepF at h
      split at h
      · injection h with h; injection h with h1 h2; subst h1 h2; exact ⟨by omega, ih.2.1, ih.2.2⟩
      · split at h
        · rename_i hf
          injection h with h; injection h with h1 h2; subst h1 h2
          refine ⟨by simp; exact ih.1, Nat.le_trans (List.dropWhile_sublist _).length_le ih.2.1, fun f hm => ?_⟩
          rcases List.mem_append.1 hm with hm | hm
          · exact ih.2.2 f hm
          · rw [List.mem_singleton.1 hm]; exact hf
        · cases h
theorem fld_facts {f : List UInt8} (h : isFld f = true) : 1 ≤ f.length ∧ f.length ≤ 3 := by
  unfold isFld fieldL at h
  rw [List.contains_iff_mem] at h
  simp only [List.mem_cons, List.not_mem_nil, or_false] at h
  rcases h with h | h | h | h | h | h | h <;> subst h <;> decide

def isL (c : UInt8) : Bool := (decide (65 ≤ c.toNat) && decide (c.toNat ≤ 90)) || (decide (97 ≤ c.toNat) && decide (c.toNat ≤ 122))
/-- the fields of a pattern -/
def runsV : Nat → List UInt8 → Option (List (List UInt8))
  | 0, _ => some []
  | _ + 1, [] => some []
  | n + 1, c :: s =>
    if (c :: s).takeWhile isL = [] then runsV n s
    else if isFld ((c :: s).takeWhile isL) then (runsV n ((c :: s).dropWhile isL)).map (((c :: s).takeWhile isL) :: ·) else none
end Go.Proofs.YtaolbfbnjbpljaaDoor
