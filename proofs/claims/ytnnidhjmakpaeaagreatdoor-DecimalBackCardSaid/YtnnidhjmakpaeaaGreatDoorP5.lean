/- Plain: a rounded number has no zero ahead. -/
import Derived.Test.YtnnidhjmakpaeaaGreatDoorP4
namespace Go.Proofs.YtnnidhjmakpaeaaGreatDoor

theorem lead_id : ∀ {l : List UInt8}, l.length ≤ 1 ∨ l.head? ≠ some 48 → leadD l = l
  | [], _ => rfl
  | [_], _ => rfl
  | c :: d :: r, h => by
    have hc : c ≠ 48 := by
      rcases h with h | h
      · simp at h
      · intro e; exact h (by rw [e]; rfl)
    rw [leadD, if_neg hc]

theorem last_cons {c : UInt8} {r : List UInt8} (h : r ≠ []) : (c :: r).getLast? = r.getLast? := by
  cases r with
  | nil => exact absurd rfl h
  | cons d r => rfl

theorem incR_ne : ∀ r, incR r ≠ []
  | [] => by simp [incR]
  | c :: r => by unfold incR; split <;> simp

theorem incR_last : ∀ r : List UInt8, ((incR r).length = r.length + 1 ∧ (incR r).getLast? = some 49) ∨
    ((incR r).length = r.length ∧ ∃ c, r.getLast? = some c ∧ ((incR r).getLast? = some c ∨ (c ≠ 57 ∧ (incR r).getLast? = some (c + 1))))
  | [] => .inl ⟨rfl, rfl⟩
  | c :: r => by
    unfold incR
    split
    · rename_i hc
      rcases incR_last r with ⟨h1, h2⟩ | ⟨h1, d, h2, h3⟩
      · exact .inl ⟨by simp [h1], by rw [last_cons (incR_ne r), h2]⟩
      · refine .inr ⟨by simp [h1], d, ?_, ?_⟩
        · rw [last_cons (by intro e; rw [e] at h2; cases h2), h2]
        · rw [last_cons (incR_ne r)]; exact h3
    · rename_i hc
      refine .inr ⟨rfl, ?_⟩
      cases r with
      | nil => exact ⟨c, rfl, .inr ⟨hc, rfl⟩⟩
      | cons d r =>
        obtain ⟨x, hx⟩ : ∃ x, (d :: r).getLast? = some x := ⟨_, List.getLast?_eq_some_getLast (by simp)⟩
        exact ⟨x, by rw [last_cons (by simp), hx], .inl (by rw [last_cons (by simp), hx])⟩

/-- the first digit behind adding 1 -/
theorem incD_head {l : List UInt8} (hl : allD l = true) : ((incD l).length = l.length + 1 ∧ (incD l).head? = some 49) ∨ ((incD l).length = l.length ∧ (l.head? ≠ some 48 → (incD l).head? ≠ some 48)) := by
  unfold incD
  rw [List.length_reverse, List.head?_reverse]
  have h := incR_last l.reverse
  rw [List.length_reverse, List.getLast?_reverse] at h
  rcases h with h | ⟨h1, c, h2, h3⟩
  · exact .inl h
  · refine .inr ⟨h1, fun hne => ?_⟩
    rw [h2] at hne
    rcases h3 with h3 | ⟨hc, h3⟩
    · rw [h3]; exact hne
    · rw [h3]
      have hd : isD c = true := by
        unfold allD at hl
        exact List.all_eq_true.1 hl c (List.mem_of_mem_head? (by rw [h2]; rfl))
      have := (isD_iff c).1 hd
      intro e
      injection e with e
      have e2 := congrArg UInt8.toNat e
      rw [UInt8.toNat_add] at e2
      have e3 : (1 : UInt8).toNat = 1 := rfl
      have e4 : (48 : UInt8).toNat = 48 := rfl
      omega

theorem head_take {l : List UInt8} {m : Nat} (h : 0 < m) : (l.take m).head? = l.head? := by
  cases l with
  | nil => simp
  | cons c l => obtain ⟨m', rfl⟩ : ∃ m', m = m' + 1 := ⟨m - 1, by omega⟩; rfl
theorem okW_head {W : List UInt8} (h : okW W = true) : W.length ≤ 1 ∨ W.head? ≠ some 48 := by
  unfold okW at h
  simp only [Bool.and_eq_true, Bool.not_eq_true', Bool.and_eq_false_iff, decide_eq_false_iff_not] at h
  rcases h.2 with h | h
  · exact .inl (by omega)
  · exact .inr (by simpa using h)
theorem lead_whole {W : List UInt8} (h : okW W = true) : leadD W = W := lead_id (okW_head h)
theorem okW_pos {W : List UInt8} (h : okW W = true) : 0 < W.length := by
  unfold okW at h
  simp only [Bool.and_eq_true, decide_eq_true_eq] at h
  omega
theorem okW_allD {W : List UInt8} (h : okW W = true) : allD W = true := by
  unfold okW at h
  simp only [Bool.and_eq_true] at h
  exact h.1.2

theorem lead_round {W F : List UInt8} {n : Nat} (hW : okW W = true) (hF : allD F = true) (hn : n < F.length) :
    leadD ((roundA W F n).take ((roundA W F n).length - n)) = (roundA W F n).take ((roundA W F n).length - n) := by
  apply lead_id
  have hp := okW_pos hW
  have hl : (W ++ F.take n).length = W.length + n := by rw [List.length_append, List.length_take, Nat.min_eq_left (by omega)]
  have hd : allD (W ++ F.take n) = true := by
    unfold allD
    rw [List.all_append, Bool.and_eq_true]
    exact ⟨okW_allD hW, List.all_eq_true.2 fun x hx => List.all_eq_true.1 hF x ((List.take_sublist _ _).subset hx)⟩
  have hh : (W ++ F.take n).head? = W.head? := by
    cases W with
    | nil => simp at hp
    | cons c W => rfl
  unfold roundA
  split
  · rcases incD_head hd with ⟨h1, h2⟩ | ⟨h1, h2⟩
    · right
      rw [head_take (by omega), h2]
      decide
    · rcases okW_head hW with h3 | h3
      · left; rw [List.length_take]; omega
      · right
        rw [head_take (by omega)]
        exact h2 (by rw [hh]; exact h3)
  · rcases okW_head hW with h3 | h3
    · left; rw [List.length_take]; omega
    · right
      rw [head_take (by omega), hh]
      exact h3
theorem dOk_W {l : List UInt8} (h : dOk l = true) : okW (dWhole l) = true := by
  unfold dOk at h
  simp only [Bool.and_eq_true] at h
  exact h.1.1

theorem cut_facts (W F : List UInt8) (n : Nat) (hn : n < F.length) : (roundA W F n).length - n ≤ (roundA W F n).length ∧ W.length + n ≤ (roundA W F n).length ∧ (roundA W F n).length ≤ W.length + n + 1 := by
  have h1 : (W ++ F.take n).length = W.length + n := by rw [List.length_append, List.length_take, Nat.min_eq_left (by omega)]
  have h2 := incD_len (W ++ F.take n)
  unfold roundA
  split <;> omega
theorem roundA_up {W F : List UInt8} {n : Nat} (hn : n < F.length) (h : 53 ≤ F[n].toNat) : roundA W F n = incD (W ++ F.take n) := by
  unfold roundA
  rw [List.getElem?_eq_getElem hn, Option.getD_some, if_pos (show (53 : UInt8) ≤ F[n] from UInt8.le_iff_toNat_le.2 h)]
theorem roundA_no {W F : List UInt8} {n : Nat} (hn : n < F.length) (h : ¬ 53 ≤ F[n].toNat) : roundA W F n = W ++ F.take n := by
  unfold roundA
  rw [List.getElem?_eq_getElem hn, Option.getD_some, if_neg (show ¬ (53 : UInt8) ≤ F[n] from fun e => h (UInt8.le_iff_toNat_le.1 e))]

end Go.Proofs.YtnnidhjmakpaeaaGreatDoor
