/- Plain: what the reference's Parse does, character by character. -/
import Derived.Test.YtaolbfbnjbpljaaGreatDoorD3
namespace Go.Proofs.YtaolbfbnjbpljaaGreatDoor

/-- the character at i may stand there -/
def okC (l : List UInt8) (i : Nat) : Bool := if i = 4 ∨ i = 7 then l.getD i 0 == 45 else isD (l.getD i 0)
/-- the three numbers, of the first i characters -/
def accA (l : List UInt8) : Nat → Nat
  | 0 => 0
  | i + 1 => if i < 4 then 10 * accA l i + ((l.getD i 0).toNat - 48) else accA l i
def accB (l : List UInt8) : Nat → Nat
  | 0 => 0
  | i + 1 => if 4 < i ∧ i < 7 then 10 * accB l i + ((l.getD i 0).toNat - 48) else accB l i
def accC (l : List UInt8) : Nat → Nat
  | 0 => 0
  | i + 1 => if 7 < i then 10 * accC l i + ((l.getD i 0).toNat - 48) else accC l i
theorem okC_digit {l : List UInt8} {i : Nat} (h : okC l i = true) (h4 : i ≠ 4) (h7 : i ≠ 7) : 48 ≤ (l.getD i 0).toNat ∧ (l.getD i 0).toNat ≤ 57 := by
  unfold okC at h
  rw [if_neg (by omega), isD_iff] at h
  exact h
theorem acc_bd {l : List UInt8} : ∀ {i : Nat}, (∀ j, j < i → okC l j = true) → accA l i < 10 ^ i ∧ accB l i < 10 ^ i ∧ accC l i < 10 ^ i
  | 0, _ => by simp [accA, accB, accC]
  | i + 1, h => by
    obtain ⟨h1, h2, h3⟩ := acc_bd (i := i) (fun j hj => h j (by omega))
    have hp : 10 ^ (i + 1) = 10 * 10 ^ i := by rw [Nat.pow_succ]; omega
    have hpos : 1 ≤ 10 ^ i := Nat.pos_of_ne_zero (by simp)
    rw [accA, accB, accC, hp]
    refine ⟨?_, ?_, ?_⟩ <;> split
    · have := okC_digit (h i (by omega)) (by omega) (by omega); omega
    · omega
    · have := okC_digit (h i (by omega)) (by omega) (by omega); omega
    · omega
    · have := okC_digit (h i (by omega)) (by omega) (by omega); omega
    · omega
theorem parse_len {l : List UInt8} (h : l.length ≠ 10) : parseV l = (0, 3) := by
  unfold parseV; rw [if_neg (fun hc => h hc.1)]
theorem allD_one (a : UInt8) (l : List UInt8) : allD (a :: l) = (isD a && allD l) := rfl
theorem parse_acc {l : List UInt8} (h : l.length = 10) (ok : ∀ i, i < 10 → okC l i = true) : parseV l = ofV (accA l 10) (accB l 10) (accC l 10) := by
  match l, h with
  | [c0, c1, c2, c3, c4, c5, c6, c7, c8, c9], _ =>
    have o0 : isD c0 = true := ok 0 (by omega)
    have o1 : isD c1 = true := ok 1 (by omega)
    have o2 : isD c2 = true := ok 2 (by omega)
    have o3 : isD c3 = true := ok 3 (by omega)
    have o4 : c4 = 45 := by have := ok 4 (by omega); simpa [okC] using this
    have o5 : isD c5 = true := ok 5 (by omega)
    have o6 : isD c6 = true := ok 6 (by omega)
    have o7 : c7 = 45 := by have := ok 7 (by omega); simpa [okC] using this
    have o8 : isD c8 = true := ok 8 (by omega)
    have o9 : isD c9 = true := ok 9 (by omega)
    unfold parseV
    rw [if_pos ⟨rfl, o4, o7, by simp [allD, o0, o1, o2, o3], by simp [allD, o5, o6], by simp [allD, o8, o9]⟩]
    have e1 : valD ([c0, c1, c2, c3, c4, c5, c6, c7, c8, c9].take 4) = accA [c0, c1, c2, c3, c4, c5, c6, c7, c8, c9] 10 := rfl
    have e2 : valD (([c0, c1, c2, c3, c4, c5, c6, c7, c8, c9].take 7).drop 5) = accB [c0, c1, c2, c3, c4, c5, c6, c7, c8, c9] 10 := rfl
    have e3 : valD ([c0, c1, c2, c3, c4, c5, c6, c7, c8, c9].drop 8) = accC [c0, c1, c2, c3, c4, c5, c6, c7, c8, c9] 10 := rfl
    rw [e1, e2, e3]
theorem parse_bad {l : List UInt8} (h : l.length = 10) {i : Nat} (hi : i < 10) (hb : okC l i = false) : parseV l = (0, 3) := by
  unfold parseV
  refine if_neg fun hc => ?_
  obtain ⟨_, h4, h7, ha, hm, hd⟩ := hc
  have hok : okC l i = true := by
    unfold okC
    match l, h with
    | [c0, c1, c2, c3, c4, c5, c6, c7, c8, c9], _ =>
      simp only [allD, List.take_succ_cons, List.take_zero, List.drop_succ_cons, List.drop_zero, List.all_cons, List.all_nil, Bool.and_eq_true, and_true] at ha hm hd
      have hx : i = 0 ∨ i = 1 ∨ i = 2 ∨ i = 3 ∨ i = 4 ∨ i = 5 ∨ i = 6 ∨ i = 7 ∨ i = 8 ∨ i = 9 := by omega
      rcases hx with e | e | e | e | e | e | e | e | e | e <;> subst e
      · rw [if_neg (by omega)]; exact ha.1
      · rw [if_neg (by omega)]; exact ha.2.1
      · rw [if_neg (by omega)]; exact ha.2.2.1
      · rw [if_neg (by omega)]; exact ha.2.2.2
      · rw [if_pos (by omega)]; rw [h4]; rfl
      · rw [if_neg (by omega)]; exact hm.1
      · rw [if_neg (by omega)]; exact hm.2
      · rw [if_pos (by omega)]; rw [h7]; rfl
      · rw [if_neg (by omega)]; exact hd.1
      · rw [if_neg (by omega)]; exact hd.2
  rw [hok] at hb
  cases hb
/-- digits are their number, as the library reads them -/
theorem atoi_digits {l : List UInt8} (h : allD l = true) (hne : l ≠ []) : Lib.atoi l = some (valD l : Int) := by
  cases l with
  | nil => exact absurd rfl hne
  | cons c l =>
    have hc : isD c = true := by simp only [allD, List.all_cons, Bool.and_eq_true] at h; exact h.1
    have hc2 := (isD_iff c).1 hc
    have h45 : c ≠ 45 := fun e => by subst e; simp at hc2
    have h43 : c ≠ 43 := fun e => by subst e; simp at hc2
    have h1 : (c == 45) = false := by simpa using h45
    have h2 : (c == 43) = false := by simpa using h43
    simp only [Lib.atoi, Lib.decNat]
    rw [h1, h2]
    simp only [Bool.false_eq_true, if_false, List.isEmpty_cons]
    rw [decFrom_val _ _ h]
    simp [valD]
end Go.Proofs.YtaolbfbnjbpljaaGreatDoor
