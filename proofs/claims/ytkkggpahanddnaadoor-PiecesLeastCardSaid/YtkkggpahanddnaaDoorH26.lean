/- Plain: the layout of what results from applying a layout. -/
import Derived.Test.YtkkggpahanddnaaDoorH24
import Derived.Test.YtkkggpahanddnaaDoorH25
namespace Go.Proofs.YtkkggpahanddnaaDoor
theorem diffN_congr {a a' m : List ByteArray} : ∀ {k : Nat}, (∀ i, i < k → a.getD i .empty = a'.getD i .empty) → diffN a m k = diffN a' m k
  | 0, _ => rfl
  | k + 1, h => by rw [diffN, diffN, diffN_congr (k := k) (fun i hi => h i (by omega)), h k (by omega)]
theorem diffN_tail {a m : List ByteArray} {j : Nat} : ∀ {k : Nat}, j ≤ k → (∀ i, j ≤ i → i < k → a.getD i .empty = m.getD i .empty) → diffN a m k = diffN a m j
  | 0, hj, _ => by rw [Nat.le_zero.1 hj]
  | k + 1, hj, h => by
    by_cases e : j = k + 1
    · rw [e]
    · rw [diffN_same (h k (by omega) (by omega)), diffN_tail (k := k) (by omega) (fun i h1 h2 => h i h1 (by omega))]
theorem valid_mono {ps : List (Int × ByteArray)} {n : Int} (hv : validV ps n = true) : ∀ k, k < ps.length → ∀ j, j < k → (ps.getD j (0, .empty)).1 < (ps.getD k (0, .empty)).1
  | 0, _, j, hj => absurd hj (Nat.not_lt_zero _)
  | k + 1, hk, j, hj => by
    have h1 := (validV_iff.1 hv (k + 1) hk).2.2 (by omega)
    rw [Nat.add_sub_cancel] at h1
    by_cases e : j = k
    · subst e; exact h1
    · exact Int.lt_trans (valid_mono hv k (by omega) j (by omega)) h1
theorem applyV_far {m : List ByteArray} {ps : List (Int × ByteArray)} {i : Nat} : ∀ k, k ≤ ps.length → (∀ j, j < k → 0 ≤ (ps.getD j (0, .empty)).1 ∧ (ps.getD j (0, .empty)).1 < (i : Int)) → (applyV m (ps.take k)).getD i .empty = m.getD i .empty
  | 0, _, _ => by simp [applyV]
  | k + 1, hk, h => by
    have h1 := h k (by omega)
    rw [applyV_take_succ m ps k (by omega)]
    unfold putV
    rw [getD_set_ne _ _ (by omega), applyV_far k (by omega) (fun j hj => h j (by omega))]
/-- the pieces that differ -/
def wantV (m : List ByteArray) (ps : List (Int × ByteArray)) : List (Int × ByteArray) := ps.filter fun p => !decide (m.getD p.1.toNat .empty = p.2)
theorem wantV_take_succ (m : List ByteArray) (ps : List (Int × ByteArray)) (k : Nat) (h : k < ps.length) : wantV m (ps.take (k + 1)) = wantV m (ps.take k) ++ (if m.getD (ps.getD k (0, .empty)).1.toNat .empty = (ps.getD k (0, .empty)).2 then [] else [ps.getD k (0, .empty)]) := by
  have e : ps.getD k (0, .empty) = ps[k] := by simp [List.getD, List.getElem?_eq_getElem h]
  unfold wantV
  rw [List.take_succ_eq_append_getElem h, List.filter_append, e]
  congr 1
  by_cases g : m.getD ps[k].1.toNat .empty = ps[k].2
  · rw [if_pos g, List.filter_cons, decide_eq_true g]; rfl
  · rw [if_neg g, List.filter_cons, decide_eq_false g]; rfl
theorem wantV_len (m : List ByteArray) (ps : List (Int × ByteArray)) : (wantV m ps).length ≤ ps.length := List.length_filter_le _ _
theorem diff_applyN {m : List ByteArray} {ps : List (Int × ByteArray)} (hv : validV ps ((m.length : Int) - 2) = true) : ∀ k, k ≤ ps.length → diffV (applyV m (ps.take k)) m = wantV m (ps.take k)
  | 0, _ => by
    show diffN m m _ = _
    rw [diffN_self]; rfl
  | k + 1, hk => by
    have ih := diff_applyN hv k (by omega)
    obtain ⟨h1, h2, -⟩ := validV_iff.1 hv k (by omega)
    have hmo := valid_mono hv k (by omega)
    have hnn : ∀ j, j < k → 0 ≤ (ps.getD j (0, .empty)).1 := fun j hj => (validV_iff.1 hv j (by omega)).1
    have hfar : ∀ i : Nat, (ps.getD k (0, .empty)).1.toNat ≤ i → (applyV m (ps.take k)).getD i .empty = m.getD i .empty := fun i hi => applyV_far k (by omega) (fun j hj => ⟨hnn j hj, by have := hmo j hj; omega⟩)
    have hA := applyV_len (ps.take k) m
    rw [applyV_take_succ m ps k (by omega), wantV_take_succ m ps k (by omega), ← ih]
    generalize applyV m (ps.take k) = A at *
    obtain ⟨j, hj⟩ := Int.eq_ofNat_of_zero_le h1
    obtain ⟨x, hx⟩ : ∃ x, (ps.getD k (0, .empty)).2 = x := ⟨_, rfl⟩
    have hp : ps.getD k (0, .empty) = ((j : Int), x) := Prod.ext hj hx
    rw [hp] at h2 hfar ⊢
    simp only [Int.toNat_natCast] at hfar ⊢
    have hjm : j < m.length := by simp only at h2; omega
    unfold putV diffV
    simp only [Int.toNat_natCast]
    rw [List.length_set, hA]
    have e1 : diffN A m m.length = diffN A m j := diffN_tail (by omega) (fun i g _ => hfar i g)
    have e2 : diffN (A.set j x) m m.length = diffN (A.set j x) m (j + 1) := diffN_tail (by omega) (fun i g _ => by rw [getD_set_ne _ _ (by omega)]; exact hfar i (by omega))
    have e3 : diffN (A.set j x) m j = diffN A m j := diffN_congr (fun i g => getD_set_ne _ _ (by omega))
    have e4 : (A.set j x).getD j .empty = x := getD_set_eq _ _ (by omega)
    rw [e1, e2, diffN, e3, e4]
    by_cases g : x = m.getD j .empty
    · rw [if_pos g, if_pos g.symm]
    · rw [if_neg g, if_neg (fun e => g e.symm)]
theorem diff_applyV {m : List ByteArray} {ps : List (Int × ByteArray)} (hv : validV ps ((m.length : Int) - 2) = true) : diffV (applyV m ps) m = wantV m ps := by
  have := diff_applyN hv ps.length (Nat.le_refl _)
  rwa [List.take_length] at this
end Go.Proofs.YtkkggpahanddnaaDoor
