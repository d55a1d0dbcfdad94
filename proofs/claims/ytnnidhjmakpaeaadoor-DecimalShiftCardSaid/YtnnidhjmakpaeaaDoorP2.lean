/- Plain: Shift by the program and Shift by the reference are the same. -/
import Derived.Test.YtnnidhjmakpaeaaDoorW14
namespace Go.Proofs.YtnnidhjmakpaeaaDoor

/-- what the reference cuts off, for k at most the fraction -/
theorem rall_low (W F : List UInt8) (k : Int) (hk : k ≤ (F.length : Int)) :
    (rAll W F k).length - (((F.length : Int)) - k).toNat = W.length + F.length ∧
    rAll W F k = List.replicate ((F.length : Int) - k).toNat 48 ++ (W ++ F) := by
  have h2 : (k - (F.length : Int)).toNat = 0 := by omega
  have h1 : rAll W F k = List.replicate ((F.length : Int) - k).toNat 48 ++ (W ++ F) := by
    unfold rAll
    rw [h2, List.replicate_zero, List.append_nil, List.append_assoc]
  refine ⟨?_, h1⟩
  rw [h1, List.length_append, List.length_append, List.length_replicate]
  omega

theorem trimmed_zeros (k : Nat) {x : List UInt8} (h : x ≠ []) : leadD (List.replicate k 48 ++ x) = trimmedD x := by
  rw [lead_zeros k h, lead_trimmed h]

theorem same_up (W F : List UInt8) (k : Nat) (hW : W ≠ []) :
    leadD ((rAll W F k).take ((rAll W F k).length - (((F.length : Int)) - k).toNat)) = shW W F k ∧
    (rAll W F k).drop ((rAll W F k).length - (((F.length : Int)) - k).toNat) = shF W F k := by
  have hx : ∀ y, W ++ y ≠ [] := fun y h => hW (List.append_eq_nil_iff.1 h).1
  unfold shW shF
  rw [if_pos (by omega), if_pos (by omega), Int.toNat_natCast]
  by_cases hk : k ≤ F.length
  · obtain ⟨h1, h2⟩ := rall_low W F k (by omega)
    rw [h1, h2]
    have e : ((F.length : Int) - (k : Int)).toNat = F.length - k := by omega
    have hs : List.replicate (F.length - k) 48 ++ (W ++ F) = (List.replicate (F.length - k) 48 ++ (W ++ F.take k)) ++ F.drop k := by
      rw [List.append_assoc, List.append_assoc, List.take_append_drop]
    have hl : (List.replicate (F.length - k) (48 : UInt8) ++ (W ++ F.take k)).length = W.length + F.length := by
      simp only [List.length_append, List.length_replicate, List.length_take]; omega
    rw [e, hs, ← hl, List.take_left, List.drop_left, trimmed_zeros _ (hx _), Nat.min_eq_left hk]
    refine ⟨?_, rfl⟩
    rw [List.take_append_of_le_length hk]
  · have e1 : ((F.length : Int) - (k : Int)).toNat = 0 := by omega
    have e2 : ((k : Int) - (F.length : Int)).toNat = k - F.length := by omega
    have h1 : rAll W F k = W ++ (F ++ List.replicate (k - F.length) 48) := by
      unfold rAll
      rw [e1, e2, List.replicate_zero, List.nil_append, List.append_assoc]
    rw [e1, Nat.sub_zero, List.take_length, List.drop_length, h1, lead_trimmed (hx _), Nat.min_eq_right (by omega), List.drop_length]
    refine ⟨?_, rfl⟩
    rw [List.take_append, List.take_of_length_le (l := F) (by omega), List.take_replicate, Nat.min_eq_left (by omega)]

theorem same_down (W F : List UInt8) (m : Nat) (hW : W ≠ []) (hm : 0 < m) :
    leadD ((rAll W F (-(m : Int))).take ((rAll W F (-(m : Int))).length - (((F.length : Int)) - (-(m : Int))).toNat)) = shW W F (-(m : Int)) ∧
    (rAll W F (-(m : Int))).drop ((rAll W F (-(m : Int))).length - (((F.length : Int)) - (-(m : Int))).toNat) = shF W F (-(m : Int)) := by
  unfold shW shF
  rw [if_neg (by omega), if_neg (by omega)]
  have e0 : (- -(m : Int)).toNat = m := by omega
  rw [e0]
  obtain ⟨h1, h2⟩ := rall_low W F (-(m : Int)) (by omega)
  rw [h1, h2]
  have e : ((F.length : Int) - -(m : Int)).toNat = F.length + m := by omega
  rw [e]
  have hp : 0 < W.length := List.length_pos_iff.2 hW
  have hx : List.replicate m 48 ++ W = (List.replicate m 48 ++ W).take W.length ++ (List.replicate m 48 ++ W).drop W.length := (List.take_append_drop ..).symm
  have hn : (List.replicate m (48 : UInt8) ++ W).take W.length ≠ [] := by
    intro h
    have := congrArg List.length h
    simp only [List.length_take, List.length_append, List.length_replicate, List.length_nil] at this
    omega
  have hs : List.replicate (F.length + m) 48 ++ (W ++ F) = (List.replicate F.length 48 ++ (List.replicate m 48 ++ W).take W.length) ++ ((List.replicate m 48 ++ W).drop W.length ++ F) := by
    rw [← List.replicate_append_replicate]
    simp only [List.append_assoc]
    rw [← List.append_assoc ((List.replicate m (48 : UInt8) ++ W).take W.length), ← hx, List.append_assoc]
  have hl : (List.replicate F.length (48 : UInt8) ++ (List.replicate m 48 ++ W).take W.length).length = W.length + F.length := by
    simp only [List.length_append, List.length_replicate, List.length_take]; omega
  rw [hs, ← hl, List.take_left, List.drop_left, trimmed_zeros _ hn]
  exact ⟨rfl, rfl⟩

theorem same_mid (W F : List UInt8) (k : Int) (hW : W ≠ []) :
    leadD ((rAll W F k).take ((rAll W F k).length - (((F.length : Int)) - k).toNat)) = shW W F k ∧
    (rAll W F k).drop ((rAll W F k).length - (((F.length : Int)) - k).toNat) = shF W F k := by
  by_cases h : 0 ≤ k
  · obtain ⟨n, rfl⟩ := Int.eq_ofNat_of_zero_le h; exact same_up W F n hW
  · obtain ⟨m, rfl⟩ : ∃ m : Nat, k = -(m : Int) := ⟨(-k).toNat, by omega⟩
    exact same_down W F m hW (by omega)

theorem drop_ge (x y : List UInt8) (h : allZ x = false) : y.length < (Lib.trimLeftS (x ++ y) [48]).length := by
  unfold Lib.trimLeftS
  induction x with
  | nil => simp [allZ] at h
  | cons c x ih =>
    by_cases hc : c = 48
    · subst hc
      have h' : allZ x = false := by simpa [allZ] using h
      rw [List.cons_append, List.dropWhile_cons, if_pos (by decide)]
      exact ih h'
    · rw [List.cons_append, List.dropWhile_cons, if_neg (by simpa using hc), List.length_cons, List.length_append]
      omega

theorem trimmed_allZ {x : List UInt8} (h : allZ x = true) : trimmedD x = [48] := by
  unfold trimmedD
  rw [if_pos]
  unfold Lib.trimLeftS
  rw [List.isEmpty_iff, dropWhile_nil]
  intro c hc
  have := List.all_eq_true.1 h c hc
  simpa using this

theorem allZ_app (a b : List UInt8) : allZ (a ++ b) = (allZ a && allZ b) := by unfold allZ; exact List.all_append ..
theorem allZ_rep (k : Nat) : allZ (List.replicate k 48) = true := by unfold allZ; rw [List.all_eq_true]; intro c hc; rw [List.eq_of_mem_replicate hc]; rfl

/-- a number upwards beyond its fraction -/
theorem shW_far (W F : List UInt8) (k : Nat) (hk : F.length ≤ k) : shW W F k = trimmedD ((W ++ F) ++ List.replicate (k - F.length) 48) ∧ shF W F k = [] := by
  unfold shW shF
  rw [if_pos (by omega), if_pos (by omega), Int.toNat_natCast, Nat.min_eq_right hk, List.drop_length]
  refine ⟨?_, rfl⟩
  rw [List.take_append, List.take_of_length_le hk, List.take_replicate, Nat.min_eq_left (by omega), List.append_assoc]

theorem shift_same (l : List UInt8) (n : Int) : shiftD l n = rshiftD l n := by
  unfold shiftD rshiftD
  cases ho : dOk l with
  | false => rw [if_pos rfl, if_pos rfl]
  | true =>
    rw [if_neg (by simp), if_neg (by simp)]
    obtain ⟨ha, hf, _, _, h1⟩ := split_ok_facts ho
    rw [bs_size] at ha hf h1
    generalize dWhole l = W at *
    generalize dFrac l = F at *
    generalize dNeg l = g
    have hW : W ≠ [] := by intro h; subst h; simp at h1
    by_cases hlow : n < -6
    · rw [if_pos (.inl hlow)]
      unfold permD
      rw [if_pos]
      right
      unfold shF
      rw [if_neg (by omega)]
      simp only [List.length_append, List.length_drop, List.length_replicate]
      omega
    · by_cases hhigh : 21 < n
      · obtain ⟨k, hk, hk22⟩ : ∃ k : Nat, max (min n 40) (-40) = (k : Int) ∧ 22 ≤ k := ⟨(max (min n 40) (-40)).toNat, by omega, by omega⟩
        rw [hk]
        obtain ⟨e1, e2⟩ := shW_far W F k (by omega)
        rw [e1, e2]
        cases hz : (allZ W && allZ F) with
        | false =>
          rw [if_pos (.inr ⟨hhigh, rfl⟩)]
          unfold permD
          rw [if_pos]
          left
          have hd := drop_ge (W ++ F) (List.replicate (k - F.length) 48) (by rw [allZ_app]; exact hz)
          rw [List.length_replicate] at hd
          unfold trimmedD
          split
          · rename_i he
            rw [List.isEmpty_iff] at he
            rw [he] at hd
            simp at hd
          · omega
        | true =>
          rw [if_neg (fun h => h.elim (fun h => hlow h) (fun h => absurd h.2 (by simp)))]
          obtain ⟨j, hj, hj22⟩ : ∃ j : Nat, min n 30 = (j : Int) ∧ 22 ≤ j := ⟨(min n 30).toNat, by omega, by omega⟩
          rw [hj, (same_mid W F j hW).1, (same_mid W F j hW).2]
          obtain ⟨e3, e4⟩ := shW_far W F j (by omega)
          rw [e3, e4, trimmed_allZ (by rw [allZ_app, allZ_app, hz, allZ_rep]; rfl), trimmed_allZ (by rw [allZ_app, allZ_app, hz, allZ_rep]; rfl)]
      · rw [if_neg (fun h => h.elim (fun h => hlow h) (fun h => hhigh h.1))]
        have e1 : max (min n 40) (-40) = n := by omega
        have e2 : min n 30 = n := by omega
        rw [e1, e2, (same_mid W F n hW).1, (same_mid W F n hW).2]
end Go.Proofs.YtnnidhjmakpaeaaDoor
