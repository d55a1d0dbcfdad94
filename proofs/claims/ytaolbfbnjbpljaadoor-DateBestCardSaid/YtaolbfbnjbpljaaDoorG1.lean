/- Plain: the fields of a skeleton and the best pattern, as the reference has them. -/
import Derived.Test.YtaolbfbnjbpljaaDoorV11
import Derived.Test.YtaolbfbnjbpljaaDoorV12
namespace Go.Proofs.YtaolbfbnjbpljaaDoor

/-- the place of a field's letter -/
def ordL (c : UInt8) : Int := if c = 121 then 0 else if c = 77 then 1 else if c = 69 then 2 else if c = 100 then 3 else -1
theorem ordL_bd (c : UInt8) : -1 ≤ ordL c ∧ ordL c ≤ 3 := by
  unfold ordL; repeat' split
  all_goals omega
theorem ordL_at {c : UInt8} {i : Nat} (hi : i < 4) (h : ordL c = i) : c = kindsL.getD i 0 := by
  have : i = 0 ∨ i = 1 ∨ i = 2 ∨ i = 3 := by omega
  unfold ordL at h
  rcases this with e | e | e | e <;> subst e <;> (repeat' split at h) <;> first | (simp [kindsL]; assumption) | omega
theorem ordL_kind {i : Nat} (hi : i < 4) : ordL (kindsL.getD i 0) = i := by
  have : i = 0 ∨ i = 1 ∨ i = 2 ∨ i = 3 := by omega
  rcases this with e | e | e | e <;> subst e <;> decide
/-- the fields of a skeleton, behind a field with the place p -/
def rF : Nat → Int → List UInt8 → Option (List (List UInt8))
  | _, _, [] => some []
  | 0, _, _ :: _ => none
  | n + 1, p, c :: s => if isFld ((c :: s).takeWhile (· == c)) = true ∧ p < ordL c then (rF n (ordL c) ((c :: s).dropWhile (· == c))).map (((c :: s).takeWhile (· == c)) :: ·) else none
def rfieldsV (s : List UInt8) : Option (List (List UInt8)) := (rF s.length (-1) s).bind fun fs => if fs = [] then none else some fs

theorem fieldsV_rF {s : List UInt8} : ∀ (j i : Nat) {o r} (n : Nat), i + j = 4 → stF s i = some (o, r) → r.length ≤ n →
    fieldsV s = (rF n ((i : Int) - 1) r).bind fun fs => if o ++ fs = [] then none else some (o ++ fs)
  | 0, i, o, r, n, hij, hst, hn => by
    obtain rfl : i = 4 := by omega
    rw [fieldsV_end hst]
    cases r with
    | nil => rw [rF]; by_cases ho : o = [] <;> simp [ho]
    | cons c r =>
      cases n with
      | zero => simp at hn
      | succ n =>
        have := ordL_bd c
        have hno : ¬ (isFld ((c :: r).takeWhile (· == c)) = true ∧ ((4 : Nat) : Int) - 1 < ordL c) := fun h => by have := h.2; omega
        rw [if_neg (by simp : ¬ (c :: r = [] ∧ o ≠ [])), rF, if_neg hno]; rfl
  | j + 1, i, o, r, n, hij, hst, hn => by
    have hi : i < 4 := by omega
    cases r with
    | nil =>
      have ih := fieldsV_rF j (i + 1) n (by omega) (stF_skip hst (by rfl)) hn
      rw [ih, rF, rF]
    | cons c r =>
      cases n with
      | zero => simp at hn
      | succ n =>
        by_cases hc : c = kindsL.getD i 0
        · have hne : (c :: r).takeWhile (· == kindsL.getD i 0) ≠ [] := by rw [List.takeWhile_cons, if_pos (by simp [hc])]; simp
          have hk := ordL_kind hi
          rw [← hc] at hne hk
          rw [rF]
          cases hf : isFld ((c :: r).takeWhile (· == c)) with
          | false =>
            rw [if_neg (by simp)]
            exact fieldsV_fail (i := i + 1) (by omega) (stF_fail hst (by rw [← hc]; exact hne) (by rw [← hc]; exact hf))
          | true =>
            rw [if_pos ⟨rfl, by omega⟩]
            have h2 := stF_take hst (by rw [← hc]; exact hne) (by rw [← hc]; exact hf)
            rw [← hc] at h2
            have hl : ((c :: r).dropWhile (· == c)).length ≤ n := by
              rw [List.dropWhile_cons, if_pos (by simp)]
              have := (List.dropWhile_sublist (l := r) (· == c)).length_le
              simp at hn; omega
            have ih := fieldsV_rF j (i + 1) n (by omega) h2 hl
            rw [ih, show (((i + 1 : Nat) : Int) - 1) = ordL c by omega]
            cases rF n (ordL c) ((c :: r).dropWhile (· == c)) with
            | none => rfl
            | some fs => simp
        · have he : (c :: r).takeWhile (· == kindsL.getD i 0) = [] := by rw [List.takeWhile_cons, if_neg (by simpa using hc)]
          have ih := fieldsV_rF j (i + 1) (n + 1) (by omega) (stF_skip hst he) hn
          rw [ih, rF, rF]
          have hno : ordL c ≠ i := fun h => hc (ordL_at hi h)
          by_cases hq : isFld ((c :: r).takeWhile (· == c)) = true ∧ ((i + 1 : Nat) : Int) - 1 < ordL c
          · rw [if_pos hq, if_pos ⟨hq.1, by omega⟩]
          · rw [if_neg hq, if_neg (fun h => hq ⟨h.1, by omega⟩)]
theorem rfields_eq (s : List UInt8) : rfieldsV s = fieldsV s := by
  rw [fieldsV_rF (s := s) 4 0 s.length (by omega) rfl (Nat.le_refl _)]
  unfold rfieldsV
  simp

/-- which kinds there are -/
def kindA (fs : List (List UInt8)) (i : Nat) : Bool := (hds fs).contains [kindsL.getD i 0]
def kindsA (fs : List (List UInt8)) : List Bool := [kindA fs 0, kindA fs 1, kindA fs 2, kindA fs 3]
theorem sub_filter {α : Type} [BEq α] [LawfulBEq α] {l L : List α} (h : l.Sublist L) : L.Nodup → l = L.filter (l.contains ·) := by
  induction h with
  | slnil => intro _; rfl
  | @cons l1 l2 a hs ih =>
    intro hn
    rw [List.nodup_cons] at hn
    have : l1.contains a = false := by
      rw [Bool.eq_false_iff]; intro hm; exact hn.1 (hs.subset (List.contains_iff_mem.1 hm))
    rw [List.filter_cons, this, if_neg (by simp)]
    exact ih hn.2
  | @cons_cons l1 l2 a hs ih =>
    intro hn
    rw [List.nodup_cons] at hn
    rw [List.filter_cons, if_pos (by simp)]
    congr 1
    refine (ih hn.2).trans (List.filter_congr fun x hx => ?_)
    have : x ≠ a := fun e => hn.1 (e ▸ hx)
    simp [this]
theorem heads_sub {s : List UInt8} {fs} (h : fieldsV s = some fs) : (hds fs).Sublist (kindsL.map fun k => [k]) := by
  unfold fieldsV at h
  cases hs : stF s 4 with
  | none => rw [hs] at h; cases h
  | some st =>
    obtain ⟨o, r⟩ := st
    rw [hs] at h
    simp only at h
    split at h
    · injection h with h
      subst h
      exact stF_heads (i := 4) (by omega) hs
    · cases h
theorem heads_eq {s t : List UInt8} {fs gs} (hf : fieldsV s = some fs) (hg : fieldsV t = some gs) (h : kindsA fs = kindsA gs) : hds fs = hds gs := by
  have hn : (kindsL.map fun k => [k]).Nodup := by decide
  rw [sub_filter (heads_sub hf) hn, sub_filter (heads_sub hg) hn]
  refine List.filter_congr fun x hx => ?_
  simp only [kindsA, kindA, List.cons.injEq, and_true] at h
  obtain ⟨h0, h1, h2, h3⟩ := h
  simp only [kindsL, List.map_cons, List.map_nil, List.mem_cons, List.not_mem_nil, or_false] at hx
  rcases hx with e | e | e | e <;> subst e <;> assumption
theorem kindsA_heads {fs gs : List (List UInt8)} (h : hds fs = hds gs) : kindsA fs = kindsA gs := by unfold kindsA kindA; rw [h]
/-- the distance of two skeletons of the same kinds, of the first k fields -/
def rdist (a b : List (List UInt8)) : Nat → Int
  | 0 => 0
  | k + 1 => rdist a b k + max (((a.getD k []).length : Int) - ((b.getD k []).length : Int)) (-(((a.getD k []).length : Int) - ((b.getD k []).length : Int)))
theorem find_head : ∀ {gs : List (List UInt8)} {g : List UInt8}, (hds gs).Nodup → g ∈ gs → gs.find? (fun x => x.take 1 == g.take 1) = some g
  | [], _, _, h => by cases h
  | a :: gs, g, hn, h => by
    simp only [hds, List.map_cons, List.nodup_cons] at hn
    rw [List.find?_cons]
    rcases List.mem_cons.1 h with e | e
    · subst e; simp
    · have : (a.take 1 == g.take 1) = false := by
        rw [beq_eq_false_iff_ne]; exact fun e2 => hn.1 (by rw [e2]; exact List.mem_map.2 ⟨g, e, rfl⟩)
      rw [this]; exact find_head hn.2 e
theorem rdist_sum {fs gs : List (List UInt8)} (hn : (hds gs).Nodup) (h : hds fs = hds gs) : ∀ k, k ≤ fs.length → rdist gs fs k = ((fs.take k).map (dist1 gs)).sum
  | 0, _ => by simp [rdist]
  | k + 1, hk => by
    have hl : fs.length = gs.length := by have := congrArg List.length h; simpa [hds] using this
    have hkf : k < fs.length := hk
    have hkg : k < gs.length := by omega
    have e1 : fs.getD k [] = fs[k] := by simp [List.getD, List.getElem?_eq_getElem hkf]
    have e2 : gs.getD k [] = gs[k] := by simp [List.getD, List.getElem?_eq_getElem hkg]
    have hh : (fs[k]).take 1 = (gs[k]).take 1 := by
      have := congrArg (fun l => l[k]?) h
      simpa [hds, List.getElem?_map, List.getElem?_eq_getElem hkf, List.getElem?_eq_getElem hkg] using this
    have hd : dist1 gs fs[k] = max (((fs[k]).length : Int) - ((gs[k]).length : Int)) (((gs[k]).length : Int) - ((fs[k]).length : Int)) := by
      unfold dist1
      rw [hh, find_head hn (List.getElem_mem hkg)]
    rw [rdist, rdist_sum hn h k (by omega), List.take_succ_eq_append_getElem hkf, List.map_append, List.sum_append, e1, e2]
    simp only [List.map_cons, List.map_nil, List.sum_cons, List.sum_nil, hd]
    omega
theorem rdist_dist {s t : List UInt8} {fs gs} (hf : fieldsV s = some fs) (hg : fieldsV t = some gs) (h : kindsA gs = kindsA fs) : distV fs gs = (rdist gs fs gs.length, true) := by
  have hh : hds fs = hds gs := (heads_eq hg hf h).symm
  have hl : fs.length = gs.length := by have := congrArg List.length hh; simpa [hds] using this
  unfold distV
  have ha : allIn fs gs = true := by
    unfold allIn
    rw [List.all_eq_true]
    intro f hm
    rw [← hh]
    exact List.contains_iff_mem.2 (List.mem_map.2 ⟨f, hm, rfl⟩)
  rw [if_pos ha, ← hl, rdist_sum (fieldsV_nodup hg) hh fs.length (Nat.le_refl _), List.take_length]
  simp [sumD]
theorem len_eq_sub {α : Type} [BEq α] [LawfulBEq α] : ∀ {l L : List α}, l.Nodup → (∀ x ∈ l, x ∈ L) → L.length ≤ l.length → ∀ x ∈ L, x ∈ l
  | [], L, _, _, hl, x, hx => by cases L with | nil => cases hx | cons a L => simp at hl
  | a :: l, L, hn, hs, hl, x, hx => by
    rw [List.nodup_cons] at hn
    by_cases e : x = a
    · subst e; simp
    · have h1 : ∀ y ∈ l, y ∈ L.erase a := fun y hy => (List.mem_erase_of_ne (fun e => by subst e; exact hn.1 hy)).2 (hs y (List.mem_cons_of_mem _ hy))
      have h2 : (L.erase a).length ≤ l.length := by
        rw [List.length_erase_of_mem (hs a (by simp))]
        simp at hl; omega
      exact List.mem_cons_of_mem _ (len_eq_sub hn.2 h1 h2 x ((List.mem_erase_of_ne e).2 hx))
theorem dist_kinds {s t : List UInt8} {fs gs} (hf : fieldsV s = some fs) (_hg : fieldsV t = some gs) (h : (distV fs gs).2 = true) : kindsA gs = kindsA fs := by
  unfold distV at h
  split at h
  · rename_i ha
    unfold allIn at ha
    rw [List.all_eq_true] at ha
    have hl : fs.length = gs.length := by simpa using h
    have hs : ∀ x ∈ hds fs, x ∈ hds gs := fun x hx => by
      obtain ⟨f, hm, rfl⟩ := List.mem_map.1 hx
      exact List.contains_iff_mem.1 (ha f hm)
    have hb := len_eq_sub (fieldsV_nodup hf) hs (by simp [hds, hl])
    have hc : ∀ x, (hds gs).contains x = (hds fs).contains x := fun x => by
      rw [Bool.eq_iff_iff, List.contains_iff_mem, List.contains_iff_mem]; exact ⟨hb x, hs x⟩
    unfold kindsA kindA
    simp only [hc]
  · cases h
/-- one pattern, as the reference has it -/
def rstep (want : List (List UInt8)) (i : Nat) (p : List UInt8) (st : Int × Int) : Int × Int :=
  match fieldsV p with
  | none => st
  | some hv => if kindsA hv = kindsA want then if st.1 < 0 ∨ rdist hv want hv.length < st.2 then ((i : Int), rdist hv want hv.length) else st else st
theorem rstep_eq {s : List UInt8} {want} (hw : fieldsV s = some want) (i : Nat) (p : List UInt8) (st : Int × Int) : rstep want i p st = bstep want i p st := by
  unfold rstep bstep
  cases hp : fieldsV p with
  | none => rfl
  | some hv =>
    simp only
    by_cases hk : kindsA hv = kindsA want
    · rw [if_pos hk, rdist_dist hw hp hk]
      simp
    · rw [if_neg hk, if_neg (fun h => hk (dist_kinds hw hp h.1))]
end Go.Proofs.YtaolbfbnjbpljaaDoor
