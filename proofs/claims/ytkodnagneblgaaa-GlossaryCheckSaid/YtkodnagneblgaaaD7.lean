/- Plain: the first match in a sorted group is the reference's best. -/
import Derived.Test.YtkodnagneblgaaaD6
namespace Go.Proofs.Ytkodnagneblgaaa
/-- a term stands at the beginning of some words -/
def mtB (lists : List (List ByteArray)) (ws : List ByteArray) (i : Nat) : Bool := decide (lists.getD i [] ≠ [] ∧ lists.getD i [] = ws.take (lnW lists i))
/-- the best of the first k terms -/
def bestTo (lists : List (List ByteArray)) (ws : List ByteArray) : Nat → Option Nat
  | 0 => none
  | k + 1 => match bestTo lists ws k with
    | none => if mtB lists ws k then some k else none
    | some b => if mtB lists ws k && decide (lnW lists b < lnW lists k) then some k else some b
def bestV (lists : List (List ByteArray)) (ws : List ByteArray) : Option Nat := bestTo lists ws lists.length
theorem mtB_iff {lists : List (List ByteArray)} {ws : List ByteArray} {i : Nat} : mtB lists ws i = true ↔ lists.getD i [] ≠ [] ∧ lists.getD i [] = ws.take (lnW lists i) := decide_eq_true_iff
theorem mtB_lt {lists : List (List ByteArray)} {ws : List ByteArray} {i : Nat} (h : mtB lists ws i = true) : i < lists.length := by
  rcases Nat.lt_or_ge i lists.length with h' | h'
  · exact h'
  · have := (mtB_iff.1 h).1
    rw [List.getD_eq_getElem?_getD, List.getElem?_eq_none h'] at this
    exact absurd rfl this
/-- the best of those below k -/
def IsBest (lists : List (List ByteArray)) (ws : List ByteArray) (k b : Nat) : Prop := b < k ∧ mtB lists ws b = true ∧ ∀ j, j < k → mtB lists ws j = true → j ≠ b → RW lists b j
theorem bestTo_spec (lists : List (List ByteArray)) (ws : List ByteArray) : ∀ k, (bestTo lists ws k = none ∧ ∀ j, j < k → mtB lists ws j = false) ∨ ∃ b, bestTo lists ws k = some b ∧ IsBest lists ws k b
  | 0 => .inl ⟨rfl, fun j hj => absurd hj (Nat.not_lt_zero _)⟩
  | k + 1 => by
    rcases bestTo_spec lists ws k with ⟨e, h⟩ | ⟨b, e, h1, h2, h3⟩
    · cases hm : mtB lists ws k with
      | true =>
        refine .inr ⟨k, by simp [bestTo, e, hm], by omega, hm, fun j hj hmj hne => ?_⟩
        have := h j (by omega)
        rw [hmj] at this; cases this
      | false =>
        refine .inl ⟨by simp [bestTo, e, hm], fun j hj => ?_⟩
        rcases Nat.lt_or_ge j k with h' | h'
        · exact h j h'
        · rw [show j = k by omega]; exact hm
    · by_cases hc : mtB lists ws k = true ∧ lnW lists b < lnW lists k
      · refine .inr ⟨k, by simp [bestTo, e, hc.1, hc.2], by omega, hc.1, fun j hj hmj hne => ?_⟩
        by_cases hjb : j = b
        · rw [hjb]; exact .inl hc.2
        · have := h3 j (by omega) hmj hjb
          unfold RW at *
          omega
      · refine .inr ⟨b, ?_, by omega, h2, fun j hj hmj hne => ?_⟩
        · simp only [bestTo, e]
          rw [if_neg (by simpa using hc)]
        · rcases Nat.lt_or_ge j k with h' | h'
          · exact h3 j h' hmj hne
          · obtain rfl : j = k := by omega
            have : ¬ lnW lists b < lnW lists j := fun h => hc ⟨hmj, h⟩
            unfold RW
            omega
theorem best_unique {lists : List (List ByteArray)} {ws : List ByteArray} {k a b : Nat} (ha : IsBest lists ws k a) (hb : IsBest lists ws k b) : a = b := by
  rcases Decidable.em (a = b) with h | h
  · exact h
  · have h1 := ha.2.2 b hb.1 hb.2.1 (fun e => h e.symm)
    have h2 := hb.2.2 a ha.1 ha.2.1 h
    unfold RW at h1 h2
    omega
/-- a match begins with the first word -/
theorem mt_head {lists : List (List ByteArray)} {s : ByteArray} {r : List ByteArray} {i : Nat} (h : mtB lists (s :: r) i = true) : (lists.getD i []).head? = some s := by
  obtain ⟨h1, h2⟩ := mtB_iff.1 h
  cases hq : lists.getD i [] with
  | nil => exact absurd hq h1
  | cons x t =>
    rw [hq] at h2
    cases hl : lnW lists i with
    | zero => rw [hl] at h2; cases h2
    | succ m => rw [hl] at h2; injection h2 with h2 _; rw [h2]; rfl
/-- the first match of the group in order -/
theorem find_best {lists : List (List ByteArray)} {s : ByteArray} {r : List ByteArray} {ns : List Nat} (h : SortG lists s ns) : ns.find? (mtB lists (s :: r)) = bestV lists (s :: r) := by
  obtain ⟨h1, h2⟩ := h
  have hmem : ∀ j, mtB lists (s :: r) j = true → j ∈ ns := fun j hj => (h1 j).2 (grp_mem.2 ⟨mtB_lt hj, mt_head hj⟩)
  rcases bestTo_spec lists (s :: r) lists.length with ⟨e, h⟩ | ⟨b, e, hb⟩
  · unfold bestV
    rw [e, List.find?_eq_none]
    intro x hx hmx
    rw [h x (mtB_lt hmx)] at hmx
    cases hmx
  · unfold bestV
    rw [e]
    cases hq : ns.find? (mtB lists (s :: r)) with
    | none =>
      rw [List.find?_eq_none] at hq
      exact absurd hb.2.1 (hq b (hmem b hb.2.1))
    | some a =>
      have ha := List.find?_some hq
      obtain ⟨_, l1, l2, e2, hbef⟩ := List.find?_eq_some_iff_append.1 hq
      have : IsBest lists (s :: r) lists.length a := ⟨mtB_lt ha, ha, fun j _ hmj hne => by
        have hj := hmem j hmj
        rw [e2] at hj h2
        rcases List.mem_append.1 hj with hj | hj
        · have := hbef j hj
          rw [hmj] at this
          cases this
        · rcases List.mem_cons.1 hj with hj | hj
          · exact absurd hj hne
          · exact (List.pairwise_cons.1 (List.pairwise_append.1 h2).2.1).1 j hj⟩
      rw [best_unique this hb]
end Go.Proofs.Ytkodnagneblgaaa
