/- Plain: a layout of a document, applied, is the document. -/
import Derived.Test.YtkkggpahanddnaaDoorH1
namespace Go.Proofs.YtkkggpahanddnaaDoor
theorem applyV_snoc (l : List ByteArray) (ps : List (Int × ByteArray)) (p : Int × ByteArray) : applyV l (ps ++ [p]) = putV (applyV l ps) p := by simp [applyV]
theorem apply_diffN {a b : List ByteArray} (hl : a.length = b.length) : ∀ k, k ≤ a.length → applyV b (diffN a b k) = a.take k ++ b.drop k
  | 0, _ => rfl
  | k + 1, hk => by
    have ih := apply_diffN hl k (by omega)
    have hka : k < a.length := by omega
    have hkb : k < b.length := by omega
    have ea : a.getD k .empty = a[k] := by simp [List.getD, List.getElem?_eq_getElem hka]
    have eb : b.getD k .empty = b[k] := by simp [List.getD, List.getElem?_eq_getElem hkb]
    by_cases h : a.getD k .empty = b.getD k .empty
    · rw [diffN_same h, ih, List.take_succ_eq_append_getElem hka, List.drop_eq_getElem_cons hkb]
      rw [ea, eb] at h
      simp [h]
    · rw [diffN_other h, applyV_snoc, ih]
      unfold putV
      rw [Int.toNat_natCast, List.set_append_right _ _ (by rw [List.length_take]; omega), List.length_take, Nat.min_eq_left (by omega), Nat.sub_self, List.drop_eq_getElem_cons hkb, List.set_cons_zero, show a.take (k + 1) = a.take k ++ [a.getD k .empty] from by rw [List.take_succ_eq_append_getElem hka, ea], List.append_assoc]
      rfl
theorem apply_diffV {a b : List ByteArray} (hl : a.length = b.length) : applyV b (diffV a b) = a := by
  unfold diffV
  rw [apply_diffN hl a.length (Nat.le_refl _), List.take_length, List.drop_of_length_le (by omega), List.append_nil]
theorem okAt_app {ps qs : List (Int × ByteArray)} {n : Int} {i : Nat} (h : i < ps.length) : okAt (ps ++ qs) n i = okAt ps n i := by
  have e : ∀ j, j < ps.length → (ps ++ qs).getD j (0, .empty) = ps.getD j (0, .empty) := fun j hj => by simp [List.getD, List.getElem?_append_left hj]
  unfold okAt
  rw [e i h, e (i - 1) (by omega)]
theorem okAt_last {ps : List (Int × ByteArray)} {p : Int × ByteArray} {n : Int} (h1 : 0 ≤ p.1) (h2 : p.1 - 1 ≤ n) (h3 : ∀ q ∈ ps, q.1 < p.1) : okAt (ps ++ [p]) n ps.length = true := by
  have e : (ps ++ [p]).getD ps.length (0, .empty) = p := by simp [List.getD]
  unfold okAt
  rw [e, decide_eq_true h1, decide_eq_true h2]
  by_cases h0 : ps.length = 0
  · rw [decide_eq_true h0]; rfl
  · have e2 : (ps ++ [p]).getD (ps.length - 1) (0, .empty) = ps.getD (ps.length - 1) (0, .empty) := by simp [List.getD, List.getElem?_append_left (show ps.length - 1 < ps.length by omega)]
    rw [e2, decide_eq_true (h3 _ (getD_mem ps (ps.length - 1) _ (by omega)))]
    simp
theorem validV_snoc {ps : List (Int × ByteArray)} {p : Int × ByteArray} {n : Int} (hv : validV ps n = true) (h1 : 0 ≤ p.1) (h2 : p.1 - 1 ≤ n) (h3 : ∀ q ∈ ps, q.1 < p.1) : validV (ps ++ [p]) n = true := by
  unfold validV at hv ⊢
  rw [List.all_eq_true] at hv ⊢
  intro i hi
  have hi' := List.mem_range.1 hi
  rw [List.length_append, List.length_cons, List.length_nil] at hi'
  rcases Nat.lt_or_ge i ps.length with h | h
  · rw [okAt_app h]; exact hv i (List.mem_range.2 h)
  · obtain rfl : i = ps.length := by omega
    exact okAt_last h1 h2 h3
theorem valid_diffN {a b : List ByteArray} {n : Nat} : ∀ k, k ≤ n + 2 → validV (diffN a b k) (n : Int) = true
  | 0, _ => rfl
  | k + 1, hk => by
    have ih := valid_diffN (a := a) (b := b) (n := n) k (by omega)
    by_cases h : a.getD k .empty = b.getD k .empty
    · rw [diffN_same h]; exact ih
    · rw [diffN_other h]
      refine validV_snoc ih (by show (0 : Int) ≤ (k : Int); omega) (by show (k : Int) - 1 ≤ (n : Int); omega) (fun q hq => ?_)
      obtain ⟨i, hi, rfl, _⟩ := diffN_mem.1 hq
      show (i : Int) < (k : Int)
      omega
end Go.Proofs.YtkkggpahanddnaaDoor
