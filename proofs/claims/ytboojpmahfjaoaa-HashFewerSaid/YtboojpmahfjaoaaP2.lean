/- Plain: the order of the keys does not matter. -/
import Derived.Test.YtboojpmahfjaoaaP1
namespace Go.Proofs.Ytboojpmahfjaoaa
open Go.RowKit

theorem goodSeed_perm {f : Nat → Bool} {a b : List ByteArray} (h : a.Perm b) (N s : Nat) : goodSeed f a N s = goodSeed f b N s := by
  rw [Bool.eq_iff_iff, goodSeed_iff, goodSeed_iff]
  have hp : (slots a (s : Int) N).Perm (slots b (s : Int) N) := h.map _
  rw [hp.nodup_iff]
  constructor
  · rintro ⟨h1, h2⟩; exact ⟨h1, fun x hx => h2 x (hp.mem_iff.2 hx)⟩
  · rintro ⟨h1, h2⟩; exact ⟨h1, fun x hx => h2 x (hp.mem_iff.1 hx)⟩
theorem seedOf_perm {f : Nat → Bool} {a b : List ByteArray} (h : a.Perm b) (N : Nat) : seedOf f a N = seedOf f b N := by
  unfold seedOf
  congr 1
  funext s
  exact goodSeed_perm h N s
theorem addAll_perm {f : Nat → Bool} {a b : List Nat} (h : a.Perm b) : addAll f a = addAll f b := by
  funext j
  unfold addAll
  congr 1
  rw [Bool.eq_iff_iff, List.any_eq_true, List.any_eq_true]
  constructor
  · rintro ⟨x, hx, e⟩; exact ⟨x, h.mem_iff.1 hx, e⟩
  · rintro ⟨x, hx, e⟩; exact ⟨x, h.mem_iff.2 hx, e⟩
theorem procL_perm {N : Nat} {L K : Nat → List ByteArray} (h : ∀ b, (L b).Perm (K b)) : ∀ (l : List Nat) (f : Nat → Bool) (sd : Nat → Nat), procL N L l f sd = procL N K l f sd
  | [], _, _ => rfl
  | b :: r, f, sd => by
    simp only [procL, (h b).length_eq, seedOf_perm (h b)]
    split
    · exact procL_perm h r f sd
    · split
      · rfl
      · rename_i s _
        have hp : (slots (L b) (s : Int) N).Perm (slots (K b) (s : Int) N) := (h b).map _
        rw [addAll_perm hp]
        exact procL_perm h r _ _

theorem built_perm {a b : List ByteArray} (h : a.Perm b) : built a = built b := by
  unfold built
  have hb : ∀ j, (bucket a (nb b.length) j).Perm (bucket b (nb b.length) j) := fun j => h.filter _
  rw [h.length_eq, procL_perm hb]
  have e : (fun j => (bucket a (nb b.length) j).length) = fun j => (bucket b (nb b.length) j).length := by
    funext j
    exact (hb j).length_eq
  rw [e]
theorem errB_perm {a b : List ByteArray} (h : a.Perm b) : errB a = errB b := by
  unfold errB
  have : dupK a a.length = dupK b b.length := by
    have e1 := dupK_all a
    have e2 := dupK_all b
    rw [h.nodup_iff, ← e2] at e1
    cases h1 : dupK a a.length <;> cases h2 : dupK b b.length <;> simp_all
  rw [this, built_perm h]
theorem sizeB_perm {a b : List ByteArray} (h : a.Perm b) : sizeB a = sizeB b := by
  unfold sizeB
  rw [errB_perm h, h.length_eq]
theorem seedsB_perm {a b : List ByteArray} (h : a.Perm b) : seedsB a = seedsB b := by
  unfold seedsB
  rw [errB_perm h, h.length_eq, built_perm h]

/-- the keys in another order, as the law takes them -/
def turned (keys : List ByteArray) (by_ k : Nat) : List ByteArray := (List.range k).map fun i => keys.getD ((keys.length - 1 - i + by_) % keys.length) .empty
theorem turned_succ (keys : List ByteArray) (b k : Nat) : turned keys b (k + 1) = turned keys b k ++ [keys.getD ((keys.length - 1 - k + b) % keys.length) .empty] := by
  simp [turned, List.range_succ]
theorem getD_range (keys : List ByteArray) : (List.range keys.length).map (fun i => keys.getD i .empty) = keys := by
  apply List.ext_getElem
  · simp
  · intro i h1 h2
    simp [List.getD, List.getElem?_eq_getElem h2]
theorem turned_perm (keys : List ByteArray) (b : Nat) : (turned keys b keys.length).Perm keys := by
  have hp : ((List.range keys.length).map fun i => (keys.length - 1 - i + b) % keys.length).Perm (List.range keys.length) := by
    refine perm_range ?_ (fun x hx => ?_) (by simp)
    · refine nodup_map_of_inj List.nodup_range fun x hx y hy e => ?_
      rw [List.mem_range] at hx hy
      have h1 : ∀ u v : Nat, u < keys.length → v < keys.length → u ≤ v → (keys.length - 1 - u + b) % keys.length = (keys.length - 1 - v + b) % keys.length → u = v := by
        intro u v hu hv huv e
        have h2 : keys.length - 1 - u + b = (keys.length - 1 - v + b) + (v - u) := by omega
        rw [h2] at e
        generalize keys.length - 1 - v + b = s at e
        have h3 : ((s + (v - u)) - s) % keys.length = 0 := Nat.sub_mod_eq_zero_of_mod_eq e
        rw [Nat.add_sub_cancel_left] at h3
        rw [Nat.mod_eq_of_lt (by omega)] at h3
        omega
      rcases Nat.le_total x y with h | h
      · exact h1 x y hx hy h e
      · exact (h1 y x hy hx h e.symm).symm
    · obtain ⟨i, hi, rfl⟩ := List.mem_map.1 hx
      rw [List.mem_range] at hi
      exact Nat.mod_lt _ (by omega)
  have h2 := hp.map fun j => keys.getD j .empty
  rw [getD_range, List.map_map] at h2
  exact h2

/-- the last key replaced by the first one -/
def twice (keys : List ByteArray) : List ByteArray := keys.set (keys.length - 1) (keys.getD 0 .empty)
theorem twice_check {keys : List ByteArray} (h : Perf keys) (h0 : keys ≠ []) : checkT keys.length (seedsB keys) (twice keys) = decide (keys.length = 1) := by
  have hl : 0 < keys.length := List.length_pos_iff.2 h0
  by_cases h1 : keys.length = 1
  · have e : twice keys = keys := by
      unfold twice
      apply List.ext_getElem
      · simp
      · intro i h2 h3
        obtain rfl : i = 0 := by omega
        rw [List.getElem_set, if_pos (by omega)]
        simp [List.getD, List.getElem?_eq_getElem h3]
    rw [e, perf_check h]
    simp [h1]
  · have hno : checkT keys.length (seedsB keys) (twice keys) = false := by
      rw [← Bool.not_eq_true]
      intro hc
      simp only [checkT, Bool.and_eq_true] at hc
      have hlen : (twice keys).length = keys.length := by simp [twice]
      have := okSl_nodup _ (by rw [List.length_map]; exact Nat.le_refl _) hc.2
      rw [List.take_of_length_le (by simp)] at this
      rw [List.nodup_iff_pairwise_ne, List.pairwise_iff_getElem] at this
      have := this 0 (keys.length - 1) (by simp [hlen]; omega) (by simp [hlen]; omega) (by omega)
      apply this
      rw [List.getElem_map, List.getElem_map]
      congr 1
      simp only [twice]
      rw [List.getElem_set, if_neg (by omega), List.getElem_set, if_pos rfl]
      simp [List.getD, List.getElem?_eq_getElem hl]
    rw [hno]
    simp [h1]
theorem other_check {keys other : List ByteArray} (h : other.length ≠ keys.length) : checkT keys.length (seedsB keys) other = false := by
  unfold checkT
  have : ¬ ((keys.length : Int) = other.length) := by omega
  simp [this]
end Go.Proofs.Ytboojpmahfjaoaa
