/- Plain: when a pattern fits a skeleton. -/
import Derived.Test.YtaolbfbnjbpljaaDoorV7
import Derived.Test.YtaolbfbnjbpljaaDoorV8
namespace Go.Proofs.YtaolbfbnjbpljaaDoor

theorem heads_hds (fs : List (List UInt8)) : headsL fs = hds fs := rfl
theorem le_tr {a b c : List UInt8} (h1 : a ≤ b) (h2 : b ≤ c) : a ≤ c := List.le_trans h1 h2
theorem sort_sorted (l : List (List UInt8)) : (sortL l).Pairwise (· ≤ ·) := by
  have := List.pairwise_mergeSort (le := fun x y : List UInt8 => decide (x ≤ y)) (fun a b c h1 h2 => by
    simp only [decide_eq_true_eq] at *; exact le_tr h1 h2) (fun a b => by
    simp only [Bool.or_eq_true, decide_eq_true_eq]; exact List.le_total a b) l
  exact this.imp (fun h => by simpa using h)
theorem sort_mem {l : List (List UInt8)} {x : List UInt8} : x ∈ sortL l ↔ x ∈ l := List.mem_mergeSort
theorem lt_of {a b : List UInt8} (h : a ≤ b) (hne : a ≠ b) : a < b := by
  rcases Classical.em (a < b) with h1 | h1
  · exact h1
  · exact absurd (List.le_antisymm h (List.not_lt.1 h1)) hne
theorem upTo_facts (d : Array (List UInt8)) (hs : ∀ i j, i ≤ j → j < d.size → d[i]! ≤ d[j]!) : ∀ m, m ≤ d.size →
    (∀ x ∈ Lib.compactUpTo d m, ∃ j, j < m ∧ d[j]! = x) ∧ (∀ j, j < m → d[j]! ∈ Lib.compactUpTo d m) ∧ (Lib.compactUpTo d m).Pairwise (· < ·)
  | 0, _ => by simp [Lib.compactUpTo]
  | m + 1, hm => by
    obtain ⟨h1, h2, h3⟩ := upTo_facts d hs m (by omega)
    rw [Lib.compactUpTo_succ]
    by_cases hk : Lib.keeps d m = true
    · rw [if_pos hk]
      refine ⟨?_, ?_, ?_⟩
      · intro x hx
        rcases List.mem_append.1 hx with hx | hx
        · obtain ⟨j, hj, e⟩ := h1 x hx; exact ⟨j, by omega, e⟩
        · exact ⟨m, by omega, (List.mem_singleton.1 hx).symm⟩
      · intro j hj
        rw [List.mem_append]
        by_cases e : j = m
        · subst e; exact .inr (by simp)
        · exact .inl (h2 j (by omega))
      · rw [List.pairwise_append]
        refine ⟨h3, by simp, ?_⟩
        intro x hx y hy
        rw [List.mem_singleton.1 hy]
        obtain ⟨j, hj, e⟩ := h1 x hx
        rw [← e]
        have hle := hs j (m - 1) (by omega) (by omega)
        have hle2 := hs (m - 1) m (by omega) (by omega)
        have hne : d[m]! ≠ d[m - 1]! := by
          unfold Lib.keeps at hk
          simp only [decide_eq_true_eq] at hk
          rcases hk with h0 | h0
          · omega
          · exact h0
        rcases Classical.em (d[j]! = d[m]!) with e2 | e2
        · have : d[m - 1]! = d[m]! := List.le_antisymm hle2 (by rw [← e2]; exact hle)
          exact absurd this.symm hne
        · exact lt_of (le_tr hle hle2) e2
    · rw [if_neg hk, List.append_nil]
      refine ⟨fun x hx => by obtain ⟨j, hj, e⟩ := h1 x hx; exact ⟨j, by omega, e⟩, ?_, h3⟩
      intro j hj
      by_cases e : j = m
      · subst e
        unfold Lib.keeps at hk
        simp only [decide_eq_true_eq, not_or] at hk
        have he : d[j]! = d[j - 1]! := Classical.byContradiction fun h => hk.2 h
        rw [he]
        exact h2 (j - 1) (by omega)
      · exact h2 j (by omega)
theorem comp_facts {l : List (List UInt8)} (hs : l.Pairwise (· ≤ ·)) : (∀ x, x ∈ Lib.compact l ↔ x ∈ l) ∧ (Lib.compact l).Pairwise (· < ·) := by
  have h := upTo_facts l.toArray (fun i j hij hj => by
    have hj' : j < l.length := by simpa using hj
    have hi' : i < l.length := by omega
    simp only [List.getElem!_toArray, getElem!_pos l i hi', getElem!_pos l j hj']
    rcases Nat.lt_or_eq_of_le hij with h | h
    · exact List.pairwise_iff_getElem.1 hs i j hi' hj' h
    · subst h; exact List.le_refl _) l.length (by simp)
  refine ⟨fun x => ⟨fun hx => compact_mem hx, fun hx => ?_⟩, h.2.2⟩
  obtain ⟨j, hj, e⟩ := List.mem_iff_getElem.1 hx
  have := h.2.1 j hj
  simp only [List.getElem!_toArray, getElem!_pos l j hj] at this
  rw [← e]; exact this
theorem strict_eq : ∀ {A B : List (List UInt8)}, A.Pairwise (· < ·) → B.Pairwise (· < ·) → (∀ x, x ∈ A ↔ x ∈ B) → A = B
  | [], [], _, _, _ => rfl
  | [], b :: B, _, _, h => by have := (h b).2 (by simp); cases this
  | a :: A, [], _, _, h => by have := (h a).1 (by simp); cases this
  | a :: A, b :: B, hA, hB, h => by
    rw [List.pairwise_cons] at hA hB
    have e : a = b := by
      rcases List.mem_cons.1 ((h a).1 (by simp)) with e | e
      · exact e
      · rcases List.mem_cons.1 ((h b).2 (by simp)) with e2 | e2
        · exact e2.symm
        · exact absurd (List.lt_trans (hB.1 a e) (hA.1 b e2)) (List.lt_irrefl _)
    subst e
    rw [strict_eq hA.2 hB.2 fun x => ⟨fun hx => by
      rcases List.mem_cons.1 ((h x).1 (by simp [hx])) with e | e
      · subst e; exact absurd (hA.1 x hx) (List.lt_irrefl _)
      · exact e, fun hx => by
      rcases List.mem_cons.1 ((h x).2 (by simp [hx])) with e | e
      · subst e; exact absurd (hB.1 x hx) (List.lt_irrefl _)
      · exact e⟩]
theorem single_flat : ∀ {A : List (List UInt8)}, (∀ x ∈ A, x.length = 1) → A = A.flatten.map fun c => [c]
  | [], _ => rfl
  | x :: A, h => by
    have h1 := h x (by simp)
    match x, h1 with
    | [c], _ =>
      have ih := single_flat (A := A) (fun y hy => h y (by simp [hy]))
      rw [List.flatten_cons, List.map_append, ← ih]; rfl
/-- the kinds of two lists of fields are the same -/
theorem kinds_same {fs gs : List (List UInt8)} (hf : ∀ f ∈ fs, 1 ≤ f.length) (hg : ∀ g ∈ gs, 1 ≤ g.length) : (kindsV fs).1 = (kindsV gs).1 ↔ ∀ x, x ∈ hds fs ↔ x ∈ hds gs := by
  have cf := comp_facts (sort_sorted (headsL fs))
  have cg := comp_facts (sort_sorted (headsL gs))
  have l1 : ∀ {fs : List (List UInt8)}, (∀ f ∈ fs, 1 ≤ f.length) → ∀ x ∈ hds fs, x.length = 1 := fun h x hx => by
    obtain ⟨f, hf, rfl⟩ := List.mem_map.1 hx
    have := h f hf
    rw [List.length_take]; omega
  have hA : ∀ x, x ∈ Lib.compact (sortL (headsL fs)) ↔ x ∈ hds fs := fun x => (cf.1 x).trans sort_mem
  have hB : ∀ x, x ∈ Lib.compact (sortL (headsL gs)) ↔ x ∈ hds gs := fun x => (cg.1 x).trans sort_mem
  unfold kindsV
  simp only [join_flat]
  constructor
  · intro h x
    have e1 := single_flat (A := Lib.compact (sortL (headsL fs))) (fun x hx => l1 hf x ((hA x).1 hx))
    have e2 := single_flat (A := Lib.compact (sortL (headsL gs))) (fun x hx => l1 hg x ((hB x).1 hx))
    rw [h, ← e2] at e1
    rw [← hA, ← hB, e1]
  · intro h
    rw [strict_eq cf.2 cg.2 (fun x => (hA x).trans ((h x).trans (hB x).symm))]
/-- .. and are different ones -/
theorem kinds_diff {gs : List (List UInt8)} : (kindsV gs).2 = true ↔ (hds gs).Nodup := by
  have cg := comp_facts (sort_sorted (headsL gs))
  unfold kindsV
  simp only [decide_eq_true_eq]
  have hl : (sortL (headsL gs)).length = gs.length := by rw [sort_len]; exact List.length_map ..
  constructor
  · intro h
    have hall : ∀ j, j < (sortL (headsL gs)).length → Lib.keeps (sortL (headsL gs)).toArray j = true := by
      unfold Lib.compact Lib.compactUpTo at h
      rw [List.length_map, ← hl] at h
      have h2 : ((List.range (sortL (headsL gs)).length).filter (Lib.keeps (sortL (headsL gs)).toArray)).length = (List.range (sortL (headsL gs)).length).length := by rw [h]; simp
      rw [List.length_filter_eq_length_iff] at h2
      exact fun j hj => h2 j (List.mem_range.2 hj)
    rw [Lib.compact_all _ hall] at cg
    have hn : (sortL (headsL gs)).Nodup := cg.2.imp fun h e => by subst e; exact List.lt_irrefl _ h
    exact (List.mergeSort_perm (headsL gs) _).nodup_iff.1 hn
  · intro h
    have hn : (sortL (headsL gs)).Nodup := (List.mergeSort_perm (headsL gs) _).nodup_iff.2 h
    have hall : ∀ j, j < (sortL (headsL gs)).length → Lib.keeps (sortL (headsL gs)).toArray j = true := by
      intro j hj
      unfold Lib.keeps
      rw [decide_eq_true_eq]
      by_cases h0 : j = 0
      · exact .inl h0
      · right
        simp only [List.getElem!_toArray, getElem!_pos (sortL (headsL gs)) j hj, getElem!_pos (sortL (headsL gs)) (j - 1) (by omega : j - 1 < (sortL (headsL gs)).length)]
        intro e
        exact absurd ((List.getElem_inj hn).1 e) (by omega)
    rw [Lib.compact_all _ hall, hl]
/-- when a pattern fits a skeleton, as sets of kinds -/
def sameB (fs gs : List (List UInt8)) : Bool := (hds fs).all (fun x => (hds gs).contains x) && (hds gs).all (fun x => (hds fs).contains x)
def dateW (s p : List UInt8) : Bool :=
  match fieldsV s, runsV p.length p with
  | some w, some g => decide (g ≠ []) && (decide (hds g).Nodup && sameB w g)
  | _, _ => false
theorem runsV_fld : ∀ {n : Nat} {s : List UInt8} {gs}, runsV n s = some gs → ∀ g ∈ gs, isFld g = true
  | 0, s, gs, h, g, hg => by simp [runsV] at h; subst h; cases hg
  | n + 1, [], gs, h, g, hg => by simp [runsV] at h; subst h; cases hg
  | n + 1, c :: s, gs, h, g, hg => by
    rw [runsV] at h
    split at h
    · exact runsV_fld h g hg
    · split at h
      · rename_i hf
        cases hr : runsV n ((c :: s).dropWhile isL) with
        | none => rw [hr] at h; cases h
        | some r =>
          rw [hr] at h
          injection h with h
          subst h
          rcases List.mem_cons.1 hg with e | e
          · rw [e]; exact hf
          · exact runsV_fld hr g e
      · cases h
theorem date_eq (s p : List UInt8) : dateV s p = dateW s p := by
  unfold dateV dateW
  cases h1 : fieldsV s with
  | none => rfl
  | some w =>
    cases h2 : runsV p.length p with
    | none => rfl
    | some g =>
      simp only
      congr 1
      have hw : ∀ f ∈ w, 1 ≤ f.length := fun f hf => (fld_facts ((fieldsV_some h1).2.2 f hf)).1
      have hg : ∀ f ∈ g, 1 ≤ f.length := fun f hf => (fld_facts (runsV_fld h2 f hf)).1
      have e1 : (kindsV g).2 = decide (hds g).Nodup := by rw [Bool.eq_iff_iff, decide_eq_true_eq]; exact kinds_diff
      have e2 : decide ((kindsV w).1 = (kindsV g).1) = sameB w g := by
        rw [Bool.eq_iff_iff, decide_eq_true_eq, kinds_same hw hg]
        unfold sameB
        simp only [Bool.and_eq_true, List.all_eq_true, List.contains_iff_mem]
        exact ⟨fun h => ⟨fun x hx => (h x).1 hx, fun x hx => (h x).2 hx⟩, fun h x => ⟨h.1 x, h.2 x⟩⟩
      rw [e1, e2]
end Go.Proofs.YtaolbfbnjbpljaaDoor
