/- Plain: digits with 1 added at the end. -/
import Derived.Test.YtnnidhjmakpaeaaGreatDoorP1
namespace Go.Proofs.YtnnidhjmakpaeaaGreatDoor

/-- digits from the last on, with 1 added -/
def incR : List UInt8 → List UInt8
  | [] => [49]
  | c :: r => if c = 57 then 48 :: incR r else (c + 1) :: r
def incD (l : List UInt8) : List UInt8 := (incR l.reverse).reverse
theorem incD_nil : incD [] = [49] := rfl
theorem incD_nine (l : List UInt8) : incD (l ++ [57]) = incD l ++ [48] := by
  unfold incD
  rw [List.reverse_append]
  show (incR (57 :: l.reverse)).reverse = _
  rw [incR, if_pos rfl, List.reverse_cons]
theorem incD_less (l : List UInt8) {c : UInt8} (h : c ≠ 57) : incD (l ++ [c]) = l ++ [c + 1] := by
  unfold incD
  rw [List.reverse_append]
  show (incR (c :: l.reverse)).reverse = _
  rw [incR, if_neg h, List.reverse_cons, List.reverse_reverse]
theorem incR_len : ∀ l : List UInt8, l.length ≤ (incR l).length ∧ (incR l).length ≤ l.length + 1
  | [] => by simp [incR]
  | c :: r => by
    have := incR_len r
    unfold incR
    split
    · simp only [List.length_cons]; omega
    · simp only [List.length_cons]; omega
theorem incD_len (l : List UInt8) : l.length ≤ (incD l).length ∧ (incD l).length ≤ l.length + 1 := by
  have := incR_len l.reverse
  unfold incD
  rw [List.length_reverse] at *
  exact this
theorem incR_digits : ∀ l : List UInt8, allD l = true → allD (incR l) = true
  | [], _ => by decide
  | c :: r, h => by
    simp only [allD, List.all_cons, Bool.and_eq_true] at h
    have ih := incR_digits r h.2
    unfold incR
    split
    · simp only [allD, List.all_cons, Bool.and_eq_true]; exact ⟨by decide, ih⟩
    · rename_i hc
      simp only [allD, List.all_cons, Bool.and_eq_true]
      refine ⟨?_, h.2⟩
      have h1 := (isD_iff c).1 h.1
      have h2 : c.toNat ≠ 57 := fun e => hc (UInt8.toNat_inj.1 e)
      rw [isD_iff, UInt8.toNat_add]
      have : (1 : UInt8).toNat = 1 := rfl
      omega
theorem incD_digits {l : List UInt8} (h : allD l = true) : allD (incD l) = true := by
  unfold incD allD
  rw [List.all_reverse]
  exact incR_digits _ (by unfold allD; rw [List.all_reverse]; exact h)
theorem valR : ∀ l : List UInt8, allD l = true → valD (incR l).reverse = valD l.reverse + 1
  | [], _ => by decide
  | c :: r, h => by
    simp only [allD, List.all_cons, Bool.and_eq_true] at h
    have ih := valR r h.2
    have h1 := (isD_iff c).1 h.1
    unfold incR
    split
    · rename_i hc
      subst hc
      rw [List.reverse_cons, List.reverse_cons, valD_snoc, valD_snoc, ih]
      have e1 : (48 : UInt8).toNat = 48 := rfl
      have e2 : (57 : UInt8).toNat = 57 := rfl
      omega
    · rename_i hc
      have h2 : c.toNat ≠ 57 := fun e => hc (UInt8.toNat_inj.1 e)
      rw [List.reverse_cons, List.reverse_cons, valD_snoc, valD_snoc, UInt8.toNat_add]
      have : (1 : UInt8).toNat = 1 := rfl
      omega
theorem valD_inc {l : List UInt8} (h : allD l = true) : valD (incD l) = valD l + 1 := by
  have := valR l.reverse (by unfold allD; rw [List.all_reverse]; exact h)
  rw [List.reverse_reverse] at this
  exact this

theorem incD_nines (l : List UInt8) (m : Nat) : incD (l ++ List.replicate m 57) = incD l ++ List.replicate m 48 := by
  induction m with
  | zero => simp
  | succ m ih => rw [List.replicate_succ', ← List.append_assoc, incD_nine, ih, List.replicate_succ', List.append_assoc]
end Go.Proofs.YtnnidhjmakpaeaaGreatDoor
