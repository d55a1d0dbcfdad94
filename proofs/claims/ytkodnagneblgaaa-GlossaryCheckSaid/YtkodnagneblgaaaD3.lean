/- The index of terms under way: its words, its groups. -/
import Derived.Test.YtkodnagneblgaaaD2
namespace Go.Proofs.Ytkodnagneblgaaa
open Go.RowKit Go.Maps Go.Sort
/-- the terms below g whose first word is s -/
def grp (lists : List (List ByteArray)) (g : Nat) (s : ByteArray) : List Nat := (List.range g).filter fun j => decide ((lists.getD j []).head? = some s)
theorem grp_succ (lists : List (List ByteArray)) (g : Nat) (s : ByteArray) : grp lists (g + 1) s = grp lists g s ++ (if (lists.getD g []).head? = some s then [g] else []) := by
  unfold grp
  rw [List.range_succ, List.filter_append]
  congr 1
  by_cases h : (lists.getD g []).head? = some s
  · rw [if_pos h, List.filter_cons, if_pos (decide_eq_true h), List.filter_nil]
  · rw [if_neg h, List.filter_cons, if_neg (by rw [decide_eq_false h]; simp), List.filter_nil]
theorem grp_mem {lists : List (List ByteArray)} {g j : Nat} {s : ByteArray} : j ∈ grp lists g s ↔ j < g ∧ (lists.getD j []).head? = some s := by
  unfold grp
  rw [List.mem_filter, List.mem_range, decide_eq_true_eq]
theorem grp_len (lists : List (List ByteArray)) (g : Nat) (s : ByteArray) : (grp lists g s).length ≤ g := by
  have := List.length_filter_le (fun j => decide ((lists.getD j []).head? = some s)) (List.range g)
  rwa [List.length_range] at this
/-- words of i terms, groups of g terms -/
structure IX (w : World) (base xb M i g : Nat) (wv : Value) (svs : List Value) (hd : ByteArray → Value) (lists : List (List ByteArray)) : Prop where
  box : w.heap[xb]? = some (.cells #[wv, .map (some M)] 80 (0, 0))
  words : WordsAt w base wv svs (lists.take i)
  gm : GM w M g hd
  rows : ∀ s, InR w base (hd s) (grp lists g s)
  apart : ∀ s t, s ≠ t → (hd s).ownBlock = none ∨ (hd s).ownBlock ≠ (hd t).ownBlock
  nz : ∀ s, hd s = .slice none 0 0 ∨ grp lists g s ≠ []
  bx : base ≤ xb
  bM : base ≤ M
  bs : base ≤ w.heap.size
variable {w w' : World} {base xb M i g : Nat} {wv : Value} {svs : List Value} {hd : ByteArray → Value} {lists : List (List ByteArray)}
theorem IX.below (h : IX w base xb M i g wv svs hd lists) (hb : Below w.heap.size w w') : IX w' base xb M i g wv svs hd lists :=
  ⟨(hb.block _ (Array.getElem?_eq_some_iff.1 h.box).1).trans h.box, h.words.below hb, h.gm.same (hb.block _ h.gm.lt), fun s => own_kept_none (h.rows s) (grown_none hb), h.apart, h.nz, h.bx, h.bM, Nat.le_trans h.bs hb.size⟩
theorem GM.mono {w : World} {M n n' : Nat} {hd : ByteArray → Value} (h : GM w M n hd) (hn : n ≤ n') : GM w M n' hd := by
  obtain ⟨D, h1, h2⟩ := h
  exact ⟨D, h1.mono hn, h2⟩
theorem take_snoc {α : Type} (l : List α) (i : Nat) (d : α) (h : i < l.length) : l.take (i + 1) = l.take i ++ [l.getD i d] := by
  rw [List.take_succ_eq_append_getElem h]
  simp [List.getD, List.getElem?_eq_getElem h]
theorem getD_snoc_lt {α : Type} (l : List α) (x d : α) (j : Nat) (h : j < l.length) : (l ++ [x]).getD j d = l.getD j d := by
  rw [List.getD_eq_getElem?_getD, List.getElem?_append_left h, ← List.getD_eq_getElem?_getD]
theorem getD_snoc_eq {α : Type} (l : List α) (x d : α) (j : Nat) (h : j = l.length) : (l ++ [x]).getD j d = x := by
  rw [List.getD_eq_getElem?_getD, List.getElem?_append_right (by omega), h, Nat.sub_self]; rfl
theorem getD_take {α : Type} (l : List α) (d : α) (i j : Nat) (h : j < i) : (l.take i).getD j d = l.getD j d := by
  rw [List.getD_eq_getElem?_getD, List.getElem?_take_of_lt h, ← List.getD_eq_getElem?_getD]
/-- a further list of words; the box holds the new slice -/
theorem IX.push (h : IX w base xb M i g wv svs hd lists) (hi : i < lists.length) {sv : Value} (hsv : StrR w base sv (lists.getD i [])) {w1 : World} {wv' : Value} (hg : w.grownBy w1 wv.ownBlock) (hown : w1.ownsRow base 39 1 wv' (svs.length + 1) (svs ++ [sv])) :
    IX (w1.setCell ⟨xb, 0, none⟩ wv') base xb M (i + 1) g wv' (svs ++ [sv]) hd lists := by
  have hb1 : w1.heap[xb]? = some (.cells #[wv, .map (some M)] 80 (0, 0)) := (hg.block _ (Array.getElem?_eq_some_iff.1 h.box).1 (by
    intro e
    rcases h.words.row.2 with ⟨h0, _⟩ | ⟨b, cap, cur, h0, _, h3, _⟩
    · rw [h0] at e; cases e
    · rw [h0] at e
      injection e with e
      have e : xb = b := e
      subst e
      rw [h.box] at h3
      injection h3 with h3
      injection h3 with _ h4
      exact absurd h4 (by decide))).trans h.box
  have hg2 := grown_setCell w1 xb 0 wv'
  have hl := h.words.len
  rw [List.length_take, Nat.min_eq_left (by omega)] at hl
  have htl : (lists.take (i + 1)).length = i + 1 := by rw [List.length_take, Nat.min_eq_left (by omega)]
  refine ⟨?_, ⟨?_, ?_, ?_⟩, ?_, fun s => ?_, h.apart, h.nz, h.bx, h.bM, ?_⟩
  · simp [World.setCell, Array.getElem?_modify, hb1]
  · rw [List.length_append]
    exact own_kept_at hown hb1 (by decide) hg2
  · rw [htl, List.length_append, hl]; rfl
  · intro j hj
    rw [htl] at hj
    rw [getD_take _ _ _ _ hj]
    by_cases hji : j < i
    · rw [getD_snoc_lt _ _ _ _ (by omega)]
      have := h.words.each j (by rw [List.length_take, Nat.min_eq_left (by omega)]; exact hji)
      rw [getD_take _ _ _ _ hji] at this
      exact own_kept_at (own_other this h.words.row (by decide) hg) hb1 (by decide) hg2
    · obtain rfl : j = i := by omega
      rw [getD_snoc_eq _ _ _ _ (by omega)]
      exact own_kept_at (own_other hsv h.words.row (by decide) hg) hb1 (by decide) hg2
  · have hM := h.gm.kept hg (h.gm.apart h.words.row)
    refine hM.kept hg2 (fun e => ?_)
    injection e with e
    obtain ⟨D, ⟨es, clock, h1, _⟩, _⟩ := hM
    rw [e, hb1] at h1
    cases h1
  · exact own_kept_at (own_other (h.rows s) h.words.row (by decide) hg) hb1 (by decide) hg2
  · exact Nat.le_trans h.bs (Nat.le_trans hg.size hg2.size)
/-- a term without words joins no group -/
theorem IX.skip (h : IX w base xb M i g wv svs hd lists) (h0 : (lists.getD g []) = []) : IX w base xb M i (g + 1) wv svs hd lists :=
  ⟨h.box, h.words, h.gm.mono (by omega), fun s => by rw [grp_succ, h0, if_neg (by intro e; cases e), List.append_nil]; exact h.rows s, h.apart, fun s => by rw [grp_succ, h0, if_neg (by intro e; cases e), List.append_nil]; exact h.nz s, h.bx, h.bM, h.bs⟩
/-- a term joins the group of its first word -/
theorem IX.put (h : IX w base xb M i g wv svs hd lists) {s : ByteArray} (hs : (lists.getD g []).head? = some s) (hn : s.size ≤ maxLen) (hgm : g < maxLen) {w1 : World} {v' : Value} (hg : w.grownBy w1 (hd s).ownBlock)
    (hown : w1.ownsRow base 3 1 v' ((grp lists g s).length + 1) ((grp lists g s).map (fun (k : Nat) => Value.int .i64 (k : Int)) ++ [.int .i64 (g : Int)])) (hloc : v'.ownBlock = (hd s).ownBlock ∨ ∃ q, v'.ownBlock = some q ∧ w.heap.size ≤ q) :
    ∃ w2, (Instr.mapUpdate 78 (.map (some M)) (.string s) v').run Try.prog w1 = .ok () w2 ∧ IX w2 base xb M i (g + 1) wv svs (updH hd s v') lists ∧ w1.grownBy w2 (some M) := by
  have hbs := h.rows s
  have hb1 : w1.heap[xb]? = some (.cells #[wv, .map (some M)] 80 (0, 0)) := (hg.block _ (Array.getElem?_eq_some_iff.1 h.box).1 (by
    intro e
    rcases hbs.2 with ⟨h0, _⟩ | ⟨b, cap, cur, h0, _, h3, _⟩
    · rw [h0] at e; cases e
    · rw [h0] at e
      injection e with e
      have e : xb = b := e
      subst e
      rw [h.box] at h3
      injection h3 with h3
      injection h3 with _ h4
      exact absurd h4 (by decide))).trans h.box
  have hM1 := h.gm.kept hg (h.gm.apart hbs)
  obtain ⟨d, hd'⟩ := hdR_own hown
  obtain ⟨w2, hrun, hM2, hg2⟩ := hM1.put s hn hgm v' d hd' (by
    rintro rfl
    rcases hown.2 with ⟨_, h0⟩ | ⟨b, cap, cur, h0, _⟩
    · omega
    · cases h0)
  have hlt : ∀ t k, (hd t).ownBlock = some k → k < w.heap.size := fun t k hk => ((h.rows t).lt k hk).2
  refine ⟨w2, hrun, ⟨?_, ?_, hM2, fun t => ?_, fun t u htu => ?_, fun t => ?_, h.bx, h.bM, Nat.le_trans h.bs (Nat.le_trans hg.size hg2.size)⟩, hg2⟩
  · refine (hg2.block _ (Array.getElem?_eq_some_iff.1 hb1).1 (fun e => ?_)).trans hb1
    injection e with e
    obtain ⟨D, ⟨es, clock, h1, _⟩, _⟩ := hM1
    rw [← e, hb1] at h1
    cases h1
  · exact (h.words.at_other hbs (by decide) (by decide) hg).at_map hM1 hg2
  · unfold updH
    by_cases e : t = s
    · subst e
      rw [if_pos rfl, grp_succ, if_pos hs]
      have : w1.ownsRow base 3 1 v' (grp lists g t ++ [g]).length ((grp lists g t ++ [g]).map fun (k : Nat) => Value.int .i64 (k : Int)) := by
        rw [List.length_append, List.map_append]; exact hown
      exact own_kept_map this hM1 hg2
    · rw [if_neg e, grp_succ, if_neg (by rw [hs]; intro e'; injection e' with e'; exact e e'.symm), List.append_nil]
      exact own_kept_map ((h.rows t).kept hg (h.apart t s e)) hM1 hg2
  · unfold updH
    by_cases e : t = s
    · subst e
      rw [if_pos rfl, if_neg (Ne.symm htu)]
      rcases hloc with hl | ⟨q, hq, hql⟩
      · rw [hl]; exact h.apart t u htu
      · right
        intro e'
        rw [hq] at e'
        have := hlt u q e'.symm
        omega
    · rw [if_neg e]
      by_cases e2 : u = s
      · subst e2
        rw [if_pos rfl]
        rcases hloc with hl | ⟨q, hq, hql⟩
        · rw [hl]; exact h.apart t u htu
        · cases hx : (hd t).ownBlock with
          | none => exact .inl rfl
          | some k =>
            right
            intro e'
            rw [hq] at e'
            injection e' with e'
            have := hlt t k hx
            omega
      · rw [if_neg e2]
        exact h.apart t u htu
  · unfold updH
    by_cases e : t = s
    · subst e
      right
      rw [grp_succ, if_pos hs]
      simp
    · rw [if_neg e, grp_succ, if_neg (by rw [hs]; intro e'; injection e' with e'; exact e e'.symm), List.append_nil]
      exact h.nz t
/-- at the beginning -/
theorem IX.start {w : World} {base xb M : Nat} (hb : w.heap[xb]? = some (.cells #[.slice none 0 0, .map (some M)] 80 (0, 0))) (hm : GM w M 0 (fun _ => .slice none 0 0)) (bx : base ≤ xb) (bM : base ≤ M) (bs : base ≤ w.heap.size) (lists : List (List ByteArray)) :
    IX w base xb M 0 0 (.slice none 0 0) [] (fun _ => .slice none 0 0) lists :=
  ⟨hb, ⟨World.ownsRow_nil _ _ _ _, by simp, fun j hj => by simp at hj⟩, hm, fun s => World.ownsRow_nil _ _ _ _, fun _ _ _ => .inl rfl, fun _ => .inl rfl, bx, bM, bs⟩
end Go.Proofs.Ytkodnagneblgaaa
