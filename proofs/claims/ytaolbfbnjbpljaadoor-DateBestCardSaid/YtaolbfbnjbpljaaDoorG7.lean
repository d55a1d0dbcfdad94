/- Plain: a pattern with the skeleton itself is the best one. -/
import Derived.Test.YtaolbfbnjbpljaaDoorG1
namespace Go.Proofs.YtaolbfbnjbpljaaDoor

theorem rF_flat : ∀ {n : Nat} {p : Int} {l : List UInt8} {fs}, rF n p l = some fs → fs.flatten = l
  | n, p, [], fs, h => by
    rw [rF] at h
    injection h with h
    subst h; rfl
  | 0, p, c :: l, fs, h => by rw [rF] at h; cases h
  | n + 1, p, c :: l, fs, h => by
    rw [rF] at h
    split at h
    · cases hr : rF n (ordL c) ((c :: l).dropWhile (· == c)) with
      | none => rw [hr] at h; cases h
      | some r =>
        rw [hr] at h
        injection h with h
        subst h
        rw [List.flatten_cons, rF_flat hr, List.takeWhile_append_dropWhile]
    · cases h
theorem fieldsV_flat {s : List UInt8} {fs} (h : fieldsV s = some fs) : fs.flatten = s := by
  rw [← rfields_eq] at h
  unfold rfieldsV at h
  cases hr : rF s.length (-1) s with
  | none => rw [hr] at h; cases h
  | some r =>
    rw [hr] at h
    simp only [Option.bind_some] at h
    split at h
    · cases h
    · injection h with h
      subst h
      exact rF_flat hr
theorem fld_rep {f : List UInt8} (h : isFld f = true) : f = List.replicate f.length (f.headD 0) := by
  unfold isFld fieldL at h
  rw [List.contains_iff_mem] at h
  simp only [List.mem_cons, List.not_mem_nil, or_false] at h
  rcases h with h | h | h | h | h | h | h <;> subst h <;> rfl
theorem fld_eq {f g : List UInt8} (hf : isFld f = true) (hg : isFld g = true) (hh : f.take 1 = g.take 1) (hl : f.length = g.length) : f = g := by
  have h1 := fld_rep hf
  have h2 := fld_rep hg
  have hd : f.headD 0 = g.headD 0 := by
    cases f <;> cases g
    · rfl
    · simp at hl
    · simp at hl
    · simp at hh; exact hh
  rw [h1, h2, hl, hd]
theorem rdist_zero {fs gs : List (List UInt8)} : ∀ k, rdist fs gs k = 0 → ∀ i, i < k → (fs.getD i []).length = (gs.getD i []).length
  | 0, _, i, hi => absurd hi (Nat.not_lt_zero _)
  | k + 1, h, i, hi => by
    have h0 : ∀ j, 0 ≤ rdist fs gs j := fun j => by
      induction j with
      | zero => simp [rdist]
      | succ j ih => rw [rdist]; omega
    rw [rdist] at h
    have hk := h0 k
    rcases Nat.lt_or_ge i k with h1 | h1
    · exact rdist_zero k (by omega) i h1
    · rw [show i = k by omega]
      omega
theorem rdist_same (fs : List (List UInt8)) : ∀ k, rdist fs fs k = 0
  | 0 => rfl
  | k + 1 => by rw [rdist, rdist_same fs k]; omega
/-- the distance is 0 exactly at the skeleton itself -/
theorem dist_self {s : List UInt8} {want} (hw : fieldsV s = some want) : distV want want = (0, true) := by
  rw [rdist_dist hw hw rfl, rdist_same]
theorem dist_zero {s p : List UInt8} {want hv} (hw : fieldsV s = some want) (hp : fieldsV p = some hv) (h2 : (distV want hv).2 = true) (h1 : (distV want hv).1 = 0) : p = s := by
  have hk := dist_kinds hw hp h2
  have hh := heads_eq hp hw hk
  rw [rdist_dist hw hp hk] at h1
  have hl : hv.length = want.length := by have := congrArg List.length hh; simpa [hds] using this
  have hz := rdist_zero _ h1
  have he : hv = want := by
    apply List.ext_getElem hl
    intro i hi1 hi2
    have e1 : hv.getD i [] = hv[i] := by simp [List.getD, List.getElem?_eq_getElem hi1]
    have e2 : want.getD i [] = want[i] := by simp [List.getD, List.getElem?_eq_getElem hi2]
    have h3 := hz i hi1
    rw [e1, e2] at h3
    refine fld_eq ((fieldsV_some hp).2.2 _ (List.getElem_mem hi1)) ((fieldsV_some hw).2.2 _ (List.getElem_mem hi2)) ?_ h3
    have := congrArg (fun l => l[i]?) hh
    simpa [hds, List.getElem?_map, List.getElem?_eq_getElem hi1, List.getElem?_eq_getElem hi2] using this
  rw [← fieldsV_flat hp, ← fieldsV_flat hw, he]
theorem distV_low {fs gs : List (List UInt8)} (hf : ∀ f ∈ fs, f.length ≤ 3) (hg : ∀ g ∈ gs, g.length ≤ 3) : 0 ≤ (distV fs gs).1 := (distV_bd hf hg).1
/-- ahead of the first pattern with the skeleton -/
theorem bst_before {s : List UInt8} {want} (hw : fieldsV s = some want) (ps : List (List UInt8 × List UInt8)) : ∀ k, (∀ i, i < k → (ps.getD i ([], [])).1 ≠ s) → (bst want ps k).1 < 0 ∨ 0 < (bst want ps k).2
  | 0, _ => .inl (by simp [bst])
  | k + 1, h => by
    have ih := bst_before hw ps k (fun i hi => h i (by omega))
    have hne := h k (by omega)
    rw [bst]
    unfold bstep
    cases hp : fieldsV (ps.getD k ([], [])).1 with
    | none => exact ih
    | some hv =>
      simp only
      split
      · rename_i hc
        right
        simp only
        have h0 : 0 ≤ (distV want hv).1 := distV_low (fun f hf => (fld_facts ((fieldsV_some hw).2.2 f hf)).2) (fun g hg => (fld_facts ((fieldsV_some hp).2.2 g hg)).2)
        have h1 : (distV want hv).1 ≠ 0 := fun e => hne (dist_zero hw hp hc.1 e)
        omega
      · exact ih
/-- .. and behind it -/
theorem bst_after {s : List UInt8} {want} (hw : fieldsV s = some want) (ps : List (List UInt8 × List UInt8)) {j : Nat} (hj : (ps.getD j ([], [])).1 = s) (hb : ∀ i, i < j → (ps.getD i ([], [])).1 ≠ s) : ∀ k, bst want ps (j + 1 + k) = ((j : Int), 0)
  | 0 => by
    rw [Nat.add_zero, bst]
    unfold bstep
    rw [hj, hw]
    simp only
    rw [dist_self hw]
    rw [if_pos ⟨rfl, bst_before hw ps j hb⟩]
  | k + 1 => by
    rw [← Nat.add_assoc, bst, bst_after hw ps hj hb k]
    unfold bstep
    cases hp : fieldsV (ps.getD (j + 1 + k) ([], [])).1 with
    | none => rfl
    | some hv =>
      simp only
      have h0 : 0 ≤ (distV want hv).1 := distV_low (fun f hf => (fld_facts ((fieldsV_some hw).2.2 f hf)).2) (fun g hg => (fld_facts ((fieldsV_some hp).2.2 g hg)).2)
      rw [if_neg (fun h => by have := h.2; omega)]
theorem bestV_first {s : List UInt8} {want} (hw : fieldsV s = some want) (ps : List (List UInt8 × List UInt8)) {j : Nat} (hl : j < ps.length) (hj : (ps.getD j ([], [])).1 = s) (hb : ∀ i, i < j → (ps.getD i ([], [])).1 ≠ s) :
    bestV ps s = ((j : Int), 0) := by
  unfold bestV
  rw [hw]
  simp only
  have := bst_after hw ps hj hb (ps.length - (j + 1))
  rw [show j + 1 + (ps.length - (j + 1)) = ps.length by omega] at this
  rw [this, if_neg (by simp)]
theorem bestV_more {s : List UInt8} {want} (hw : fieldsV s = some want) (ps qs : List (List UInt8 × List UInt8)) {j : Nat} (hl : j < ps.length) (hj : (ps.getD j ([], [])).1 = s) (hb : ∀ i, i < j → (ps.getD i ([], [])).1 ≠ s) :
    bestV (ps ++ qs) s = ((j : Int), 0) := by
  have e : ∀ i, i ≤ j → (ps ++ qs).getD i ([], []) = ps.getD i ([], []) := fun i hi => by
    simp [List.getD, List.getElem?_append_left (show i < ps.length by omega)]
  refine bestV_first hw (ps ++ qs) (by simp; omega) (by rw [e j (by omega)]; exact hj) (fun i hi => by rw [e i (by omega)]; exact hb i hi)
theorem bestV_err (ps : List (List UInt8 × List UInt8)) (s : List UInt8) : ((bestV ps s).2 = 0 ∧ ∃ want, fieldsV s = some want) ∨ (bestV ps s).2 = 3 ∨ (bestV ps s).2 = 8 := by
  unfold bestV
  cases fieldsV s with
  | none => exact .inr (.inl rfl)
  | some want =>
    simp only
    split
    · exact .inr (.inr rfl)
    · exact .inl ⟨rfl, want, rfl⟩
/-- few and short -/
def fewB (ps : List (List UInt8 × List UInt8)) : Bool := ps.all (fun p => decide (p.1.length ≤ 60) && decide (p.2.length ≤ 200)) && decide (ps.length ≤ 40)
end Go.Proofs.YtaolbfbnjbpljaaDoor
