/- Plain: the tokens of two strings with a line feed, blanks and comments between them. -/
import Derived.Test.YtmleeodfmmpdgaaGreatDoorQ10
import Derived.Test.YtmleeodfmmpdgaaGreatDoorQ17
import Derived.Deep.DeepCutAuto
import Derived.Test.YtmleeodfmmpdgaaGreatDoorQ11
import Derived.Test.YtmleeodfmmpdgaaGreatDoorQ28
namespace Go.Proofs.YtmleeodfmmpdgaaGreatDoor
open Go.RowKit
theorem skipT_nil (l : List UInt8) : skipS true (10 :: l) = 1 + skipS false l := by rw [skipS, if_pos rfl]
theorem skipF_nl (l : List UInt8) : skipS false (10 :: l) = 1 + skipS false l := by rw [skipS, if_pos (by decide)]
theorem skip_app : ∀ (m : Bool) (x t : List UInt8), skipS m (x ++ 10 :: t) = if skipS m x < x.length then skipS m x else x.length + 1 + skipS false t
  | true, [], t => by rw [List.nil_append, skipT_nil, if_neg (by simp [skipS])]; simp
  | false, [], t => by rw [List.nil_append, skipF_nl, if_neg (by simp [skipS])]; simp
  | true, c :: x, t => by
    rw [List.cons_append, skipS, skipS, List.length_cons]
    by_cases h : c = 10
    · rw [if_pos h, if_pos h, skip_app false x t]
      by_cases h2 : skipS false x < x.length
      · rw [if_pos h2, if_pos (by omega)]
      · rw [if_neg h2, if_neg (by omega)]; omega
    · rw [if_neg h, if_neg h, skip_app true x t]
      by_cases h2 : skipS true x < x.length
      · rw [if_pos h2, if_pos (by omega)]
      · rw [if_neg h2, if_neg (by omega)]; omega
  | false, c :: x, t => by
    rw [List.cons_append, skipS, skipS, List.length_cons]
    by_cases h : c ∈ blanksL
    · rw [if_pos h, if_pos h, skip_app false x t]
      by_cases h2 : skipS false x < x.length
      · rw [if_pos h2, if_pos (by omega)]
      · rw [if_neg h2, if_neg (by omega)]; omega
    · rw [if_neg h, if_neg h]
      by_cases h3 : c = 35
      · rw [if_pos h3, if_pos h3, skip_app true x t]
        by_cases h2 : skipS true x < x.length
        · rw [if_pos h2, if_pos (by omega)]
        · rw [if_neg h2, if_neg (by omega)]; omega
      · rw [if_neg h3, if_neg h3, if_pos (by omega)]
theorem takeWhile_nl (x t : List UInt8) : (x ++ 10 :: t).takeWhile (innerL.contains ·) = x.takeWhile (innerL.contains ·) := by
  induction x with
  | nil => rfl
  | cons c x ih =>
    rw [List.cons_append, List.takeWhile_cons, List.takeWhile_cons]
    split
    · rw [ih]
    · rfl
theorem wordLen_nl (x t : List UInt8) : wordLen (x ++ 10 :: t) = wordLen x := by unfold wordLen; rw [takeWhile_nl]
theorem endL_app : ∀ {x : List UInt8} {n : Nat} (t : List UInt8), endL x = some n → endL (x ++ t) = some n
  | [], n, t, h => by cases h
  | [c], n, t, h => by
    by_cases e : c = 34
    · subst e
      simp [endL] at h
      subst h
      cases t with
      | nil => rfl
      | cons d t => simp [endL]
    · simp [endL, e] at h
  | c :: d :: r, n, t, h => by
    unfold endL at h
    show endL (c :: d :: (r ++ t)) = some n
    unfold endL
    split at h
    · rename_i h1; rw [if_pos h1]; exact h
    · rename_i h1
      rw [if_neg h1]
      split at h
      · rename_i h2
        obtain ⟨j, h3, rfl⟩ := Option.map_eq_some_iff.1 h
        rw [if_pos h2, endL_app t h3]; rfl
      · rename_i h2
        obtain ⟨j, h3, rfl⟩ := Option.map_eq_some_iff.1 h
        rw [if_neg h2]
        have := endL_app t h3
        rw [List.cons_append] at this
        rw [this]; rfl
theorem getD_app {a t : List UInt8} {i : Nat} (hi : i < a.length) : (a ++ t).getD i 0 = a.getD i 0 := by
  rw [List.getD, List.getD, List.getElem?_append_left hi]
theorem next_app {a t : List UInt8} {i : Nat} (hi : i < a.length) (hok : (nextV a i).2.2.2 = 0) : nextV (a ++ 10 :: t) i = nextV a i := by
  have hd : (a ++ 10 :: t).drop i = a.drop i ++ 10 :: t := List.drop_append_of_le_length (by omega)
  have hw : wordLen ((a ++ 10 :: t).drop i) = wordLen (a.drop i) := by rw [hd, wordLen_nl]
  have hg : (a ++ 10 :: t).getD i 0 = a.getD i 0 := getD_app hi
  have ht : ((a ++ 10 :: t).drop i).take (wordLen (a.drop i)) = (a.drop i).take (wordLen (a.drop i)) := by
    rw [hd, List.take_append_of_le_length (wordLen_le _)]
  unfold nextV at hok ⊢
  rw [hg, hw, ht]
  by_cases h1 : a.getD i 0 ∈ marksL
  · rw [if_pos h1, if_pos h1]
  rw [if_neg h1] at hok
  rw [if_neg h1, if_neg h1]
  by_cases h2 : a.getD i 0 = 34
  · rw [if_pos h2] at hok
    rw [if_pos h2, if_pos h2]
    cases hn : endL (a.drop (i + 1)) with
    | none => rw [quotedV_none hn] at hok; exact absurd (show (3 : Nat) = 0 from hok) (by decide)
    | some n =>
      have hlt := endL_ltN hn
      have hd2 : (a ++ 10 :: t).drop (i + 1) = a.drop (i + 1) ++ 10 :: t := List.drop_append_of_le_length (by omega)
      have hn2 : endL ((a ++ 10 :: t).drop (i + 1)) = some n := by rw [hd2]; exact endL_app _ hn
      have ht2 : ((a ++ 10 :: t).drop (i + 1)).take n = (a.drop (i + 1)).take n := by rw [hd2, List.take_append_of_le_length (by omega)]
      rw [quotedV_some hn, quotedV_some hn2, ht2]
  · rw [if_neg h2, if_neg h2]
/-- two answers alike but for the place -/
def Alike (x y : Nx) : Prop := x.1.1 = y.1.1 ∧ x.1.2.1 = y.1.2.1 ∧ x.2.1 = y.2.1 ∧ x.2.2.2 = y.2.2.2
theorem Alike.bad (i j e : Nat) : Alike (badN i e) (badN j e) := ⟨rfl, rfl, rfl, rfl⟩
theorem drop_past (c b : List UInt8) (i : Nat) : (c ++ b).drop (c.length + i) = b.drop i := by rw [← List.drop_drop, List.drop_left]
theorem quoted_shift (c b : List UInt8) (i : Nat) : Alike (quotedV (c ++ b) (c.length + i)) (quotedV b i) := by
  have hd : (c ++ b).drop (c.length + i + 1) = b.drop (i + 1) := by rw [show c.length + i + 1 = c.length + (i + 1) by omega, drop_past]
  cases hn : endL (b.drop (i + 1)) with
  | none => rw [quotedV_none hn, quotedV_none (by rw [hd]; exact hn)]; exact .bad _ _ _
  | some n =>
    rw [quotedV_some hn, quotedV_some (by rw [hd]; exact hn), hd]
    split
    · exact .bad _ _ _
    · split
      · exact .bad _ _ _
      · split
        · exact .bad _ _ _
        · exact ⟨rfl, rfl, rfl, rfl⟩
theorem next_shift (c b : List UInt8) (i : Nat) : Alike (nextV (c ++ b) (c.length + i)) (nextV b i) := by
  have hd : (c ++ b).drop (c.length + i) = b.drop i := drop_past c b i
  have hg : (c ++ b).getD (c.length + i) 0 = b.getD i 0 := by rw [List.getD, List.getD, List.getElem?_append_right (by omega), Nat.add_sub_cancel_left]
  unfold nextV
  rw [hd, hg]
  split
  · exact ⟨rfl, rfl, rfl, rfl⟩
  · split
    · exact quoted_shift c b i
    · split
      · exact .bad _ _ _
      · split
        · exact .bad _ _ _
        · exact ⟨rfl, rfl, rfl, rfl⟩
theorem skipAt_shift (c b : List UInt8) (i : Nat) : skipAt (c ++ b) (c.length + i) = c.length + skipAt b i := by
  unfold skipAt
  rw [drop_past]
  omega
/-- the piece between two strings that a number stands for -/
def gapP (n : Nat) : List UInt8 := match n with | 0 => [32] | 1 => [9] | 2 => [13] | 3 => [10] | 4 => [35, 32, 120, 32, 34, 32, 123, 10] | _ => [35, 10]
def gapT (g : List UInt8) : List UInt8 := g.flatMap fun n => gapP (n.toNat % 6)
theorem gapP_skip (n : Nat) (t : List UInt8) : skipS false (gapP n ++ t) = (gapP n).length + skipS false t := by
  unfold gapP
  split <;> simp [skipS, blanksL] <;> omega
theorem gapT_skip (t : List UInt8) : ∀ g : List UInt8, skipS false (gapT g ++ t) = (gapT g).length + skipS false t
  | [] => by show skipS false t = 0 + _; rw [Nat.zero_add]
  | n :: g => by
    rw [show gapT (n :: g) = gapP (n.toNat % 6) ++ gapT g from rfl, List.append_assoc, gapP_skip, gapT_skip t g, List.length_append]
    omega
theorem run_bad {l : List UInt8} {M N : Nat} (h : RunP l M) (h0 : 0 < N) (hN : ∀ k, k < N → posV l k < l.length) (hok : ∀ k, k + 1 < N → (itemV l k).2.2.2 = 0) (hE : (itemV l (N - 1)).2.2.2 ≠ 0) : M = N := by
  rcases Nat.lt_trichotomy M N with h1 | h1 | h1
  · rcases h.2.2 with ⟨h2, _⟩ | ⟨h2, h3⟩
    · have := hN M h1; omega
    · exact absurd (hok (M - 1) (by omega)) h3
  · exact h1
  · exact absurd (h.2.1 (N - 1) (by omega)) hE
section
variable {a b g : List UInt8} {M N K : Nat}
theorem blanks_fst (hr : RunP a M) (hok : ∀ k, k < M → (itemV a k).2.2.2 = 0) : ∀ k, k < M → posV (a ++ 10 :: (gapT g ++ b)) k = posV a k ∧ itemV (a ++ 10 :: (gapT g ++ b)) k = itemV a k
  | 0, h => by
    have h1 := hr.1 0 h
    have h2 : posV (a ++ 10 :: (gapT g ++ b)) 0 = posV a 0 := by
      show skipAt _ 0 = skipAt _ 0
      replace h1 : 0 + skipS false (a.drop 0) < a.length := h1
      rw [List.drop_zero, Nat.zero_add] at h1
      unfold skipAt
      rw [List.drop_zero, List.drop_zero, skip_app, if_pos h1]
    refine ⟨h2, ?_⟩
    unfold itemV
    rw [h2]
    exact next_app h1 (hok 0 h)
  | k + 1, h => by
    obtain ⟨p1, p2⟩ := blanks_fst hr hok k (by omega)
    have h1 := hr.1 (k + 1) h
    have hl := hr.1 k (by omega)
    have h3 := next_len a _ hl
    have h2 : posV (a ++ 10 :: (gapT g ++ b)) (k + 1) = posV a (k + 1) := by
      show skipAt _ (_ + (itemV (a ++ 10 :: (gapT g ++ b)) k).2.1) = skipAt _ (_ + (itemV a k).2.1)
      rw [p1, p2]
      replace h1 : posV a k + (itemV a k).2.1 + skipS false (a.drop (posV a k + (itemV a k).2.1)) < a.length := h1
      replace h3 : posV a k + (itemV a k).2.1 ≤ a.length := h3
      unfold skipAt
      rw [List.drop_append_of_le_length h3, skip_app, if_pos (by rw [List.length_drop]; omega)]
    refine ⟨h2, ?_⟩
    unfold itemV
    rw [h2]
    exact next_app h1 (hok (k + 1) h)
theorem skipAt_end {p : Nat} (hp : p ≤ a.length) (hs : a.length ≤ skipAt a p) : skipAt (a ++ 10 :: (gapT g ++ b)) p = (a ++ 10 :: gapT g).length + skipAt b 0 := by
  unfold skipAt at hs ⊢
  rw [List.drop_append_of_le_length hp, skip_app, if_neg (by rw [List.length_drop]; omega), gapT_skip, List.length_drop, List.length_append, List.length_cons, List.drop_zero]
  omega
theorem blanks_mid (hr : RunP a M) (hok : ∀ k, k < M → (itemV a k).2.2.2 = 0) : posV (a ++ 10 :: (gapT g ++ b)) M = (a ++ 10 :: gapT g).length + posV b 0 := by
  have hE : a.length ≤ posV a M := by
    rcases hr.2.2 with ⟨h, _⟩ | ⟨h1, h2⟩
    · exact h
    · exact absurd (hok (M - 1) (by omega)) h2
  cases M with
  | zero => exact skipAt_end (Nat.zero_le _) hE
  | succ k =>
    obtain ⟨p1, p2⟩ := blanks_fst (g := g) (b := b) hr hok k (by omega)
    have h3 := next_len a _ (hr.1 k (by omega))
    show skipAt _ (_ + (itemV (a ++ 10 :: (gapT g ++ b)) k).2.1) = _
    rw [p1, p2]
    exact skipAt_end h3 hE
theorem split_app : a ++ 10 :: (gapT g ++ b) = (a ++ 10 :: gapT g) ++ b := by rw [List.append_assoc, List.cons_append]
theorem blanks_snd (hr : RunP a M) (hok : ∀ k, k < M → (itemV a k).2.2.2 = 0) : ∀ j, posV (a ++ 10 :: (gapT g ++ b)) (M + j) = (a ++ 10 :: gapT g).length + posV b j ∧ Alike (itemV (a ++ 10 :: (gapT g ++ b)) (M + j)) (itemV b j)
  | 0 => by
    have h2 := blanks_mid (g := g) (b := b) hr hok
    refine ⟨h2, ?_⟩
    unfold itemV
    rw [Nat.add_zero, h2, split_app]
    exact next_shift _ _ _
  | j + 1 => by
    obtain ⟨p1, p2⟩ := blanks_snd hr hok j
    have h2 : posV (a ++ 10 :: (gapT g ++ b)) (M + j + 1) = (a ++ 10 :: gapT g).length + posV b (j + 1) := by
      show skipAt _ (_ + (itemV (a ++ 10 :: (gapT g ++ b)) (M + j)).2.1) = _ + skipAt _ (_ + (itemV b j).2.1)
      rw [p1, p2.2.2.1, split_app, Nat.add_assoc, skipAt_shift]
    refine ⟨h2, ?_⟩
    unfold itemV
    rw [← Nat.add_assoc, h2, split_app]
    exact next_shift _ _ _
theorem blanks_num (hr : RunP a M) (hok : ∀ k, k < M → (itemV a k).2.2.2 = 0) (hb : RunP b N) (hz : RunP (a ++ 10 :: (gapT g ++ b)) K) : K = M + N := by
  have hl : (a ++ 10 :: (gapT g ++ b)).length = (a ++ 10 :: gapT g).length + b.length := by rw [split_app, List.length_append]
  have hpos : ∀ k, k < M + N → posV (a ++ 10 :: (gapT g ++ b)) k < (a ++ 10 :: (gapT g ++ b)).length := fun k hk => by
    rcases Nat.lt_or_ge k M with h | h
    · rw [(blanks_fst hr hok k h).1]
      have := hr.1 k h
      rw [List.length_append]; omega
    · obtain ⟨j, rfl⟩ : ∃ j, k = M + j := ⟨k - M, by omega⟩
      rw [(blanks_snd hr hok j).1, hl]
      have := hb.1 j (by omega)
      omega
  have herr : ∀ k, k < M → (itemV (a ++ 10 :: (gapT g ++ b)) k).2.2.2 = 0 := fun k hk => by rw [(blanks_fst hr hok k hk).2]; exact hok k hk
  rcases hb.2.2 with ⟨h1, h2⟩ | ⟨h1, h2⟩
  · refine run_unique hz (fun k hk => ⟨hpos k hk, ?_⟩) (by rw [(blanks_snd hr hok N).1, hl]; omega)
    rcases Nat.lt_or_ge k M with h | h
    · exact herr k h
    · obtain ⟨j, rfl⟩ : ∃ j, k = M + j := ⟨k - M, by omega⟩
      rw [(blanks_snd hr hok j).2.2.2.2]
      exact h2 j (by omega)
  · refine run_bad hz (by omega) hpos (fun k hk => ?_) (by rw [show M + N - 1 = M + (N - 1) by omega, (blanks_snd hr hok (N - 1)).2.2.2.2]; exact h2)
    rcases Nat.lt_or_ge k M with h | h
    · exact herr k h
    · obtain ⟨j, rfl⟩ : ∃ j, k = M + j := ⟨k - M, by omega⟩
      rw [(blanks_snd hr hok j).2.2.2.2]
      exact hb.2.1 j (by omega)
end
end Go.Proofs.YtmleeodfmmpdgaaGreatDoor
/- Walk: the reference's quoted, of any string. -/
namespace Go.Proofs.YtmleeodfmmpdgaaGreatDoor
open Go.RowKit
attribute [local go_sem] Ext.cell Ext.frozen
attribute [local go_sem ↓] Go.wp_at_zero Go.wp_at_succ
end Go.Proofs.YtmleeodfmmpdgaaGreatDoor
/- Walk: the reference's Tokens, of any string. -/
namespace Go.Proofs.YtmleeodfmmpdgaaGreatDoor
open Go.RowKit
attribute [local go_sem] Ext.cell Ext.frozen
attribute [local go_sem ↓] Go.wp_at_zero Go.wp_at_succ
theorem wordLen_mem {l : List UInt8} {i : Nat} (hi : i < l.length) : 0 < wordLen (l.drop i) ↔ l.getD i 0 ∈ innerL := by
  have hd := drop_at hi
  unfold wordLen
  rw [hd, List.takeWhile_cons]
  by_cases h : l.getD i 0 ∈ innerL
  · rw [if_pos (by simpa using h)]
    exact ⟨fun _ => h, fun _ => by simp⟩
  · rw [if_neg (by simpa using h)]
    exact ⟨fun h2 => absurd h2 (by simp), fun h2 => absurd h2 h⟩
/-- the token at a place, in the reference's order of asking -/
theorem next_word {l : List UInt8} {i : Nat} (hi : i < l.length) (h : 0 < wordLen (l.drop i)) :
    nextV l i = if 40 < wordLen (l.drop i) then badN i 6 else ((1, (l.drop i).take (wordLen (l.drop i)), i), wordLen (l.drop i), 0, 0) := by
  have hm := (wordLen_mem hi).1 h
  have k1 : ∀ c ∈ innerL, c ∉ marksL ∧ c ≠ 34 := by decide
  obtain ⟨h1, h2⟩ := k1 _ hm
  unfold nextV
  rw [if_neg h1, if_neg h2, if_neg (by omega)]
theorem next_quote {l : List UInt8} {i : Nat} (h : l.getD i 0 = 34) : nextV l i = quotedV l i := by
  unfold nextV
  rw [if_neg (by rw [h]; decide), if_pos h]
theorem next_mark {l : List UInt8} {i : Nat} (h : l.getD i 0 ∈ marksL) : nextV l i = ((3, [l.getD i 0], i), 1, 0, 0) := by
  unfold nextV
  rw [if_pos h]
theorem next_else {l : List UInt8} {i : Nat} (h : ¬ 0 < wordLen (l.drop i)) (h1 : l.getD i 0 ≠ 34) (h2 : l.getD i 0 ∉ marksL) : nextV l i = badN i 3 := by
  unfold nextV
  rw [if_neg h2, if_neg h1, if_pos (by omega)]
end Go.Proofs.YtmleeodfmmpdgaaGreatDoor
/- Plain: the tokens of a spelled line are those that were spelled; the tokens of a string can be spelled. -/
namespace Go.Proofs.YtmleeodfmmpdgaaGreatDoor
open Go.RowKit
theorem takeWhile_idem (p : UInt8 → Bool) : ∀ x : List UInt8, (x.takeWhile p).takeWhile p = x.takeWhile p
  | [] => rfl
  | c :: x => by
    by_cases h : p c = true
    · rw [List.takeWhile_cons, if_pos h, List.takeWhile_cons, if_pos h, takeWhile_idem p x]
    · rw [List.takeWhile_cons, if_neg h]; rfl
/-- a token that was read can be spelled -/
theorem next_ok {l : List UInt8} {i : Nat} (hi : i < l.length) (h : (nextV l i).2.2.2 = 0) : okZ (zOf (nextV l i)) = true ∧ (nextV l i).1.2.1.length ≤ (nextV l i).2.1 := by
  by_cases hw : 0 < wordLen (l.drop i)
  · have hn := next_word hi hw
    by_cases h4 : 40 < wordLen (l.drop i)
    · rw [if_pos h4] at hn
      rw [hn] at h
      exact absurd (show (6 : Nat) = 0 from h) (by decide)
    · rw [if_neg h4] at hn
      rw [hn]
      have hle := wordLen_le (l.drop i)
      have hlt : ((l.drop i).take (wordLen (l.drop i))).length = wordLen (l.drop i) := by rw [List.length_take]; omega
      have hww : wordLen ((l.drop i).take (wordLen (l.drop i))) = wordLen (l.drop i) := by
        have e : (l.drop i).take (wordLen (l.drop i)) = (l.drop i).takeWhile (innerL.contains ·) := (List.prefix_iff_eq_take.1 (List.takeWhile_prefix _)).symm
        rw [e]
        unfold wordLen
        rw [takeWhile_idem]
      refine ⟨?_, by show _ ≤ wordLen (l.drop i); rw [hlt]; exact Nat.le_refl _⟩
      show okZ (((1 : Nat) : Int), _, _) = true
      rw [show ((1 : Nat) : Int) = 1 from rfl, okZ_1]
      have hA : isWordV ((l.drop i).take (wordLen (l.drop i))) = true := by
        generalize (l.drop i).take (wordLen (l.drop i)) = X at *
        unfold isWordV
        rw [decide_eq_true (p := X ≠ []) (fun e => by rw [e] at hlt; simp at hlt; omega), decide_eq_true (p := X.length ≤ 40) (by omega), decide_eq_true (p := wordLen X = X.length) (by omega)]
        rfl
      exact hA
  · by_cases h34 : l.getD i 0 = 34
    · rw [next_quote h34] at h ⊢
      cases hn : endL (l.drop (i + 1)) with
      | none => rw [quotedV_none hn] at h; exact absurd (show (3 : Nat) = 0 from h) (by decide)
      | some n =>
        rw [quotedV_some hn] at h ⊢
        have hul := (unescV_len ((l.drop (i + 1)).take n)).1
        rw [List.length_take] at hul
        split at h
        · exact absurd (show (3 : Nat) = 0 from h) (by decide)
        · rename_i h1
          rw [if_neg h1]
          split at h
          · exact absurd (show (6 : Nat) = 0 from h) (by decide)
          · rename_i h2
            rw [if_neg h2]
            split at h
            · exact absurd (show (4 : Nat) = 0 from h) (by decide)
            · rename_i h3
              rw [if_neg h3]
              refine ⟨?_, by show (unescV ((l.drop (i + 1)).take n)).1.length ≤ n + 2; omega⟩
              show okZ (((2 : Nat) : Int), _, _) = true
              rw [show ((2 : Nat) : Int) = 2 from rfl, okZ_2]
              have hB : isTextV (unescV ((l.drop (i + 1)).take n)).1 = true := by
                generalize (unescV ((l.drop (i + 1)).take n)).1 = X at *
                unfold isTextV
                rw [decide_eq_true (p := X.length ≤ 400) (by omega)]
                cases hv : Lib.validD X
                · exact absurd hv h3
                · rfl
              exact hB
    · by_cases hm : l.getD i 0 ∈ marksL
      · rw [next_mark hm]
        refine ⟨?_, Nat.le_refl _⟩
        show okZ (((3 : Nat) : Int), _, _) = true
        rw [show ((3 : Nat) : Int) = 3 from rfl, okZ_3]
        unfold isMarkV
        rw [decide_eq_true (by rfl), decide_eq_true (by exact hm)]
        rfl
      · rw [next_else hw h34 hm] at h
        exact absurd (show (3 : Nat) = 0 from h) (by decide)
/-- the texts of the tokens that were read are no longer than what was read -/
def textSum (xs : List Tz) : Nat := (xs.map fun x => x.2.1.length).sum
theorem textSum_snoc (xs : List Tz) (x : Tz) : textSum (xs ++ [x]) = textSum xs + x.2.1.length := by simp [textSum]
theorem texts_le {l : List UInt8} {M : Nat} (hr : RunP l M) (hok : ∀ k, k < M → (itemV l k).2.2.2 = 0) : ∀ k, k ≤ M → textSum ((upto (itemV l) k).map zOf) ≤ posV l k
  | 0, _ => Nat.zero_le _
  | k + 1, h => by
    have ih := texts_le hr hok k (by omega)
    have h1 := (next_ok (hr.1 k (by omega)) (hok k (by omega))).2
    rw [upto_succ, List.map_append, List.map_singleton, textSum_snoc]
    show _ ≤ skipAt l (posV l k + (nextV l (posV l k)).2.1)
    unfold skipAt
    replace h1 : (itemV l k).1.2.1.length ≤ (nextV l (posV l k)).2.1 := h1
    show _ + (itemV l k).1.2.1.length ≤ _
    omega
end Go.Proofs.YtmleeodfmmpdgaaGreatDoor
/- LexemeTokens: Tokens returns the specified tokens, or the specified offset and error. -/
namespace Go.Proofs.YtmleeodfmmpdgaaGreatDoor
open Go.RowKit
attribute [local go_sem] Ext.cell Ext.frozen
attribute [local go_sem ↓] Go.wp_at_zero Go.wp_at_succ
theorem run_same {l : List UInt8} {M N : Nat} (h : RunP l M) (k : RunP l N) : M = N := by
  rcases k.2.2 with ⟨h1, h2⟩ | ⟨h1, h2⟩
  · exact run_unique h (fun q hq => ⟨k.1 q hq, h2 q hq⟩) h1
  · exact run_bad h h1 k.1 k.2.1 h2
end Go.Proofs.YtmleeodfmmpdgaaGreatDoor
/- Plain: the tokens of a text; how the program reads a table whole. -/
namespace Go.Proofs.YtmleeodfmmpdgaaGreatDoor
/-- how many tokens are read -/
noncomputable def runM (l : List UInt8) : Nat := (run_exists l).choose
theorem runM_ok (l : List UInt8) : RunP l (runM l) ∧ runM l ≤ l.length + 1 := (run_exists l).choose_spec
theorem runM_eq {l : List UInt8} {M : Nat} (h : RunP l M) : runM l = M := run_same (runM_ok l).1 h
def allOk (f : Nat → Nx) (M : Nat) : Bool := (List.range M).all fun k => decide ((f k).2.2.2 = 0)
theorem allOk_iff (f : Nat → Nx) (M : Nat) : allOk f M = true ↔ ∀ k, k < M → (f k).2.2.2 = 0 := by
  unfold allOk
  rw [List.all_eq_true]
  exact ⟨fun h k hk => of_decide_eq_true (h k (List.mem_range.2 hk)), fun h k hk => decide_eq_true (h k (List.mem_range.1 hk))⟩
/-- the tokens, or the place and the number of the error -/
noncomputable def toksV (l : List UInt8) : List Tz × Int × Int :=
  if allOk (itemV l) (runM l) then ((upto (itemV l) (runM l)).map zOf, 0, 0) else ([], ((itemV l (runM l - 1)).2.2.1 : Int), ((itemV l (runM l - 1)).2.2.2 : Int))
theorem posV_len (l : List UInt8) : ∀ (k : Nat), (∀ q, q < k → posV l q < l.length) → posV l k ≤ l.length
  | 0, _ => skipAt_le l (Nat.zero_le _)
  | k + 1, h => by
    have h1 := h k (by omega)
    exact skipAt_le l (next_len l _ h1)
theorem sum_mem {xs : List Nat} {n : Nat} (h : n ∈ xs) : n ≤ xs.sum := by
  induction xs with
  | nil => cases h
  | cons x xs ih =>
    rcases List.mem_cons.1 h with rfl | h
    · simp
    · have := ih h
      simp
      omega
theorem toksV_le (l : List UInt8) : (∀ t ∈ (toksV l).1, t.2.1.length ≤ l.length) ∧ (toksV l).1.length ≤ l.length + 1 := by
  unfold toksV
  split
  · rename_i h
    rw [allOk_iff] at h
    obtain ⟨hr, hl⟩ := runM_ok l
    have h1 := texts_le hr h (runM l) (Nat.le_refl _)
    have h2 := posV_len l (runM l) hr.1
    refine ⟨fun t ht => ?_, ?_⟩
    · have : t.2.1.length ≤ textSum ((upto (itemV l) (runM l)).map zOf) := sum_mem (List.mem_map.2 ⟨t, ht, rfl⟩)
      omega
    · show ((upto (itemV l) (runM l)).map zOf).length ≤ _
      rw [List.length_map, upto_length]
      exact hl
  · exact ⟨(fun t ht => by cases ht), Nat.zero_le _⟩
theorem RS.Le.tItem (E : Int) (y : Lc) (r : RS) : RS.Le (tItem E y r).2 r := by
  unfold Go.Proofs.YtmleeodfmmpdgaaGreatDoor.tItem
  split
  · exact .fail E 3 r
  · exact (RS.Le.itN E _ y _ _).trans (.word E r)
theorem RS.Le.tItems (E : Int) : ∀ (n : Nat) (y : Lc) (r : RS), RS.Le (tItems E n y r).2 r
  | 0, _, r => .refl r
  | n + 1, y, r => by
    rw [Go.Proofs.YtmleeodfmmpdgaaGreatDoor.tItems]
    split
    · exact (RS.Le.tItems E n _ _).trans (.tItem E y r)
    · exact .refl r
theorem RS.Le.head (E : Int) (r : RS) : RS.Le (r.head E).2 r := by
  unfold RS.head
  dsimp only
  split
  · exact (RS.Le.word E _).trans ((RS.Le.word E _).trans (.word E r))
  · exact .word E r
theorem RS.Le.tLocale (E : Int) (r : RS) : RS.Le (tLocale E r).2 r := (RS.Le.mark E _ _).trans ((RS.Le.tItems E _ _ _).trans ((RS.Le.mark E _ _).trans (.head E r)))
theorem RS.Le.al (E : Int) (r : RS) : RS.Le (RS.al E r).2 r := (RS.Le.mark E _ _).trans ((RS.Le.word E _).trans (.word E r))
theorem RS.Le.ne (E : Int) (r : RS) : RS.Le (RS.ne E r).2 r := (RS.Le.mark E _ _).trans ((RS.Le.number E 1000 _).trans ((RS.Le.word E _).trans (.word E r)))
theorem RS.is_kind {E k : Int} {s : List UInt8} {r : RS} (h : r.is E k s = true) : r.e = 0 ∧ (r.peek E).1 = k ∧ (r.peek E).2.1 = s := by
  unfold RS.is at h
  rw [Bool.and_eq_true, Bool.and_eq_true, decide_eq_true_eq, decide_eq_true_eq, decide_eq_true_eq] at h
  exact h
theorem tPart_lt {E : Int} {t : Tb} {r : RS} (h : (tPart E t r).2.e = 0) : (tPart E t r).2.l.length < r.l.length := by
  unfold tPart at h ⊢
  dsimp only at h ⊢
  by_cases h1 : r.is E 1 [108, 111, 99, 97, 108, 101] = true
  · rw [if_pos h1]
    obtain ⟨he, hk, _⟩ := RS.is_kind h1
    exact Nat.lt_of_le_of_lt ((RS.Le.tLim _ _ _).trans (.tLocale E _)) (RS.word_lt hk he)
  · rw [if_neg h1] at h ⊢
    by_cases h2 : r.is E 1 [97, 108, 105, 97, 115] = true
    · rw [if_pos h2]
      obtain ⟨he, hk, _⟩ := RS.is_kind h2
      exact Nat.lt_of_le_of_lt ((RS.Le.tLim _ _ _).trans (.al E _)) (RS.word_lt hk he)
    · rw [if_neg h2] at h ⊢
      by_cases h3 : r.is E 1 [110, 101, 97, 114] = true
      · rw [if_pos h3]
        obtain ⟨he, hk, _⟩ := RS.is_kind h3
        exact Nat.lt_of_le_of_lt ((RS.Le.tLim _ _ _).trans (.ne E _)) (RS.word_lt hk he)
      · rw [if_neg h3] at h
        exact absurd h (RS.fail_e E (by decide) r)
/-- a table has few rows -/
structure TbFew (m : Nat) (t : Tb) : Prop where
  locs : t.locs.length ≤ 60 + m
  als : t.als.length ≤ 200 + m
  near : t.near.length ≤ 200 + m
theorem tLim_ok {p : Int} {f : Bool} {r : RS} (h : (tLim p f r).e = 0) : f = false ∧ r.e = 0 := by
  unfold tLim at h
  cases f with
  | true => exact absurd h (RS.failAt_e p (by decide) r)
  | false => exact ⟨rfl, h⟩
theorem TbFew.part {E : Int} {t : Tb} {r : RS} (h : TbFew 0 t) : TbFew 1 (tPart E t r).1 ∧ ((tPart E t r).2.e = 0 → TbFew 0 (tPart E t r).1) := by
  have a0 := h.locs
  have a1 := h.als
  have a2 := h.near
  unfold tPart
  dsimp only
  split
  · refine ⟨⟨by simp; omega, by show t.als.length ≤ _; omega, by show t.near.length ≤ _; omega⟩, fun g => ⟨?_, h.als, h.near⟩⟩
    have := (tLim_ok g).1
    rw [decide_eq_false_iff_not] at this
    simp
    omega
  · split
    · refine ⟨⟨by show t.locs.length ≤ _; omega, by simp; omega, by show t.near.length ≤ _; omega⟩, fun g => ⟨h.locs, ?_, h.near⟩⟩
      have := (tLim_ok g).1
      rw [decide_eq_false_iff_not] at this
      simp
      omega
    · split
      · refine ⟨⟨by show t.locs.length ≤ _; omega, by show t.als.length ≤ _; omega, by simp; omega⟩, fun g => ⟨h.locs, h.als, ?_⟩⟩
        have := (tLim_ok g).1
        rw [decide_eq_false_iff_not] at this
        simp
        omega
      · exact ⟨⟨by show t.locs.length ≤ _; omega, by show t.als.length ≤ _; omega, by show t.near.length ≤ _; omega⟩, fun _ => h⟩
def tb0 : Tb := ⟨[], [], []⟩
/-- the reading of tokens -/
def tRead (E : Int) (ts : List Tz) : Tb × Int × Int :=
  let q := tParts E (ts.length + 1) tb0 ⟨ts, 0, 0⟩
  if q.2.e = 0 then (q.1, 0, 0) else (tb0, q.2.pos, q.2.e)
/-- what Parse returns -/
noncomputable def tParse (l : List UInt8) : Tb × Int × Int :=
  if 200000 < l.length then (tb0, 0, 6)
  else if (toksV l).2.2 = 0 then tRead (l.length : Int) (toksV l).1 else (tb0, (toksV l).2.1, (toksV l).2.2)
end Go.Proofs.YtmleeodfmmpdgaaGreatDoor
/- Walks: a table whole. -/
namespace Go.Proofs.YtmleeodfmmpdgaaGreatDoor
open Go.RowKit
attribute [local go_sem] Ext.cell Ext.frozen
attribute [local go_sem ↓] Go.wp_at_zero Go.wp_at_succ
theorem results_cell_row3 {fn : Func} {p u v : Tmp} {ty : TypeId} {P : Program} (h : fn.results = #[.cell p ty, .tmp u, .tmp v]) (tmps : Array Value) (w : World) (g : Nat) (x : Value)
    (hp : tmps.getD p undef = .pointer (some ⟨g, 0, none⟩)) (hlv : (loadVar ty ⟨g, 0, none⟩).run P w = .ok x w) :
    (results fn tmps).run P w = .ok (.tuple #[x, tmps.getD u undef, tmps.getD v undef]) w := by
  have hp' : tmps[p]?.getD undef = .pointer (some ⟨g, 0, none⟩) := by simpa using hp
  simp [results, h, hp', asAddr, hlv]
theorem own_cap {w : World} {base sz : Nat} {E : TypeId} {ad : Option Addr} {n m c : Nat} {xs : List Value} (h : w.ownsRow base E sz (.slice ad n c) m xs) : n ≤ c ∧ c ≤ maxLen := by
  rcases h.2 with ⟨h1, h2⟩ | ⟨g, cap, cur, h1, _, _, h4, h5, _⟩
  · injection h1 with _ h3 h4
    subst h3 h4
    exact ⟨Nat.le_refl _, Nat.zero_le _⟩
  · injection h1 with _ h3 h6
    subst h3 h6
    exact ⟨h4, h5⟩
theorem ptok_any (l : List UInt8) (hl : l.length ≤ 200000) (w : World) (hM : MaxLen w) (hU : TabU w) : Calls Tryz.prog 26 #[.string (bs l)] w fun e w' =>
    ∃ ad c tb off, e = .returned (.tuple #[.slice ad (toksV l).1.length c, .int .i64 (toksV l).2.1, .int .i64 (toksV l).2.2]) ∧ TzAt w' ad (toksV l).1.length (toksV l).1 tb off ∧ ((toksV l).1 ≠ [] → tb < w'.heap.size) ∧ (toksV l).1.length ≤ c ∧ c ≤ 9223372036854775807 ∧ Below w.heap.size w w' := by
  refine (tokens_any l hl w hM hU).mono ?_
  rintro e w' ⟨hb, M, hrun, hMl, hor⟩
  obtain rfl := runM_eq hrun
  rcases hor with ⟨hok, ad, c, rfl, hown⟩ | ⟨h0, h6, rfl⟩
  · have hT : toksV l = ((upto (itemV l) (runM l)).map zOf, 0, 0) := by
      unfold toksV
      rw [if_pos ((allOk_iff _ _).2 hok)]
    have hlen : ((upto (itemV l) (runM l)).map zOf).length = runM l := by rw [List.length_map, upto_length]
    obtain ⟨b, htk⟩ := own_tk hown (by omega)
    have htz := htk.z
    have hc := own_cap hown
    rw [hT]
    dsimp only
    rw [hlen]
    refine ⟨ad, c, b, 0, rfl, htz, fun hne => ?_, hc.1, by have := hc.2; unfold maxLen at this; omega, hb⟩
    have hpos : 0 < runM l := by
      rcases Nat.eq_zero_or_pos (runM l) with e | e
      · rw [e] at hne; exact absurd rfl hne
      · exact e
    exact World.block_lt_of_cell? w' _ (htz.c0 0 hpos)
  · have hT : toksV l = ([], ((itemV l (runM l - 1)).2.2.1 : Int), ((itemV l (runM l - 1)).2.2.2 : Int)) := by
      unfold toksV
      rw [if_neg]
      intro h
      exact h6 ((allOk_iff _ _).1 h (runM l - 1) (by omega))
    rw [hT]
    exact ⟨none, 0, 0, 0, rfl, ⟨rfl, Nat.zero_le _, fun h => absurd rfl h, fun _i hi => absurd hi (Nat.not_lt_zero _), fun _i hi => absurd hi (Nat.not_lt_zero _), fun _i hi => absurd hi (Nat.not_lt_zero _)⟩, fun h => absurd rfl h, Nat.le_refl _, by decide, hb⟩
def tabTs2 : List TypeId := [46, 61, 58] ++ rowTs
theorem TabV.tbC {base : Nat} {w : World} {T : Nat} {t : Tb} {v0 v1 v2 : Value} (h : TabV base w T t v0 v1 v2) (hf : TbFew 1 t) : TbC (see base tabTs2 w) (fun j => (#[v0, v1, v2] : Array Value).getD j undef) t := by
  have n0 : t.locs.length ≤ 140737488351232 := Nat.le_trans hf.locs (by decide)
  have n1 : t.als.length ≤ 140737488351232 := Nat.le_trans hf.als (by decide)
  have n2 : t.near.length ≤ 140737488351232 := Nat.le_trans hf.near (by decide)
  have up : ∀ ts, (∀ U, U ∈ ts → U ∈ tabTs2) → Sub (see base ts w) (see base tabTs2 w) := fun ts h => see_le w (Nat.le_refl _) h
  exact ⟨(h.g0.rows mLcC n0).sub (up _ (by decide)) fun _ _ g => mLcC _ _ _ _ (up (46 :: rowTs) (by decide)) g, (h.g1.rows mAlC n1).sub (up _ (by decide)) fun _ _ g => mAlC _ _ _ _ (up [61] (by decide)) g, (h.g2.rows mNeC n2).sub (up _ (by decide)) fun _ _ g => mNeC _ _ _ _ (up [58] (by decide)) g⟩
theorem TabV.new {w : World} {T : Nat} (h : Cel w T 27 [.slice none 0 0, .slice none 0 0, .slice none 0 0]) : TabV T w T tb0 (.slice none 0 0) (.slice none 0 0) (.slice none 0 0) := ⟨h, Nat.le_refl _, Grow.nil _ _ _ _ _ _, Grow.nil _ _ _ _ _ _, Grow.nil _ _ _ _ _ _⟩
theorem TbC.zero (w : World) : TbC w (fun j => (#[.slice none 0 0, .slice none 0 0, .slice none 0 0] : Array Value).getD j undef) tb0 := ⟨RowsOf.nil _ _ _, RowsOf.nil _ _ _, RowsOf.nil _ _ _⟩
/-- what Parse leaves -/
def ParseP (w : World) (res : Tb × Int × Int) (e : Ending) (w' : World) : Prop :=
  ∃ f : Nat → Value, e = .returned (.tuple #[.agg #[f 0, f 1, f 2], .int .i64 res.2.1, .int .i64 res.2.2]) ∧ TbC (see w.heap.size tabTs2 w') f res.1 ∧ Below w.heap.size w w'
/-- from a block on all may change -/
def upP (n k : Nat) : Bool := decide (n ≤ k)
theorem upP_up {n k : Nat} (h : n ≤ k) : upP n k = true := decide_eq_true h
set_option maxRecDepth 20000 in
set_option maxHeartbeats 4000000 in
theorem tparse_any (l : List UInt8) (hl : l.length ≤ 200000) (w : World) (hM : MaxLen w) (hU : TabU w) : Calls Tryz.prog 11 #[.string (bs l)] w (ParseP w (tParse l)) := by
  have HT0 := Lib.hid (fun W (k : Below w.heap.size w W) => ptok_any l hl W (hM.below k) (hU.below k))
  have HV : Hid (tParse l = if (toksV l).2.2 = 0 then tRead (l.length : Int) (toksV l).1 else (tb0, (toksV l).2.1, (toksV l).2.2)) := by
    unfold Hid tParse
    rw [if_neg (by omega)]
  have hsz : (bs l).size = l.length := bs_size l
  have hsm : ∀ t ∈ (toksV l).1, t.2.1.length ≤ 200000 := fun t ht => Nat.le_trans ((toksV_le l).1 t ht) hl
  have hg : 1 < w.heap.size := by
    obtain ⟨m, hm⟩ := hM
    exact World.block_lt_of_cell? w _ hm
  obtain ⟨n0, hn0⟩ : ∃ n, w.heap.size = n := ⟨_, rfl⟩
  have HM := Lib.hid (fun W (k : Below w.heap.size w W) => hM.below k)
  have hlI : (l.length : Int) ≤ 200000 := by omega
  obtain ⟨E, hE⟩ : ∃ E : Int, (l.length : Int) = E := ⟨_, rfl⟩
  have hszE : ((bs l).size : Int) = E := by rw [hsz, hE]
  rw [hE] at HV hlI
  clear hM hU hsz hl
  unfold ParseP
  generalize tParse l = res at *
  generalize toksV l = ts at *
  obtain ⟨ts, tpos, terr⟩ := ts
  simp only at HT0 HV hsm
  generalize bs l = S at *
  have HN0 := Lib.hid (Cel.new w [.slice none 0 0, .slice none 0 0, .slice none 0 0] 27)
  have HK0 := Lib.hid ((Kp.refl (upP n0) w).alloc (.cells #[.slice none 0 0, .slice none 0 0, .slice none 0 0] 27))
  have HB0 := Lib.hid (Bel.alloc (Bel.refl w) (.cells #[.slice none 0 0, .slice none 0 0, .slice none 0 0] 27))
  rw [hn0] at HN0
  have hbig : ¬ (200000 < S.size) := by omega
  go_enter Tryz.func11, Tryz.ntmps11
  go_upto_region 1 with (fail)
  have HT1 := Lib.hid (HT0.out _ HB0.out)
  have HM1 := Lib.hid (HM.out _ HB0.out)
  generalize w.alloc (.cells #[.slice none 0 0, .slice none 0 0, .slice none 0 0] 27) = w0 at *
  go_wp2_with fail
  refine HT1.out.mono ?_
  rintro _ w1 ⟨ad, c, tb, off, rfl, htz, htb, hnc, hcb, hb1⟩
  have HN1 := Lib.hid (HN0.out.below hb1)
  have HK1 := Lib.hid (HK0.out.trans (kp_below hb1))
  have HB1 := Lib.hid (HB0.out.trans (hb1.mono HB0.out.size))
  have HTZ := Lib.hid htz
  clear htz hb1 HT0 HT1 HM1 HB0 HN0 HK0
  by_cases he : terr = 0
  · subst he
    rw [if_pos rfl] at HV
    have HX2 := Lib.hid (Cel.new w1 [.slice ad ts.length c, .int .i64 E, .int .i64 0, .int .i64 0] 67)
    have hrb : Rd (w1.alloc (.cells #[.slice ad ts.length c, .int .i64 E, .int .i64 0, .int .i64 0] 67)) w1.heap.size E ⟨ts, 0, 0⟩ :=
      ⟨ad, c, tb, off, HX2.out, HTZ.out.below (Bel.alloc (Bel.refl w1) _), htb, hnc, hcb, hsm⟩
    have HR2 := Lib.hid hrb
    have HN2 := Lib.hid (HN1.out.below (Bel.alloc (Bel.refl w1) (.cells #[.slice ad ts.length c, .int .i64 E, .int .i64 0, .int .i64 0] 67)))
    have HK2 := Lib.hid (HK1.out.alloc (.cells #[.slice ad ts.length c, .int .i64 E, .int .i64 0, .int .i64 0] 67))
    have hs2 : (w1.alloc (.cells #[.slice ad ts.length c, .int .i64 E, .int .i64 0, .int .i64 0] 67)).heap.size = w1.heap.size + 1 := by simp
    have HS2 := Lib.hid hs2
    obtain ⟨rb, hrb0⟩ : ∃ r, w1.heap.size = r := ⟨_, rfl⟩
    have hn1 : n0 < w1.heap.size := HN1.out.lt
    rw [hrb0] at HR2 HS2 hn1
    clear hrb hs2 HX2 HN1 HK1 HB1 HTZ htb
    go_upto_region 7 with (fail)
    generalize w1.alloc (.cells #[.slice ad ts.length c, .int .i64 E, .int .i64 0, .int .i64 0] 67) = w2 at *
    have HT3 := Lib.hid (TabV.new (Cel.new w2 [.slice none 0 0, .slice none 0 0, .slice none 0 0] 27))
    have HR3 := Lib.hid (HR2.out.below (Bel.alloc (Bel.refl w2) (.cells #[.slice none 0 0, .slice none 0 0, .slice none 0 0] 27)))
    have HN3 := Lib.hid (HN2.out.below (Bel.alloc (Bel.refl w2) (.cells #[.slice none 0 0, .slice none 0 0, .slice none 0 0] 27)))
    have HK3 := Lib.hid (HK2.out.alloc (.cells #[.slice none 0 0, .slice none 0 0, .slice none 0 0] 27))
    rw [HS2.out] at HT3
    have HV2 : Hid (res = if (tParts E (ts.length + 1) tb0 ⟨ts, 0, 0⟩).2.e = 0 then ((tParts E (ts.length + 1) tb0 ⟨ts, 0, 0⟩).1, 0, 0) else (tb0, (tParts E (ts.length + 1) tb0 ⟨ts, 0, 0⟩).2.pos, (tParts E (ts.length + 1) tb0 ⟨ts, 0, 0⟩).2.e)) := HV.out
    have HNX : Hid (∀ n t q, tParts E (n + 1) t q = if q.e = 0 ∧ q.l ≠ [] then tParts E n (tPart E t q).1 (tPart E t q).2 else (t, q)) := fun _ _ _ => rfl
    have HNZ : Hid (∀ t q, tParts E 0 t q = (t, q)) := fun _ _ => rfl
    have HF0 : Hid (TbFew 0 tb0) := ⟨Nat.zero_le _, Nat.zero_le _, Nat.zero_le _⟩
    have HTT : Hid (tParts E (ts.length + 1) tb0 ⟨ts, 0, 0⟩ = tParts E (ts.length + 1) tb0 ⟨ts, 0, 0⟩) := rfl
    obtain ⟨R, hR⟩ : ∃ R, tParts E (ts.length + 1) tb0 ⟨ts, 0, 0⟩ = R := ⟨_, rfl⟩
    rw [hR] at HV2
    have HTR : Hid (tParts E (ts.length + 1) tb0 ⟨ts, 0, 0⟩ = R) := hR
    have hrbn : n0 ≠ rb := by omega
    clear hR HV HTT HR2 HN2 HK2 hsm
    go_wp2_with fail
    rw [HS2.out]
    go_loopw [] (fun wr => ∃ n t q, tParts E n t q = R ∧ (q.e = 0 → q.l.length < n) ∧ TabAt (rb + 1) wr (rb + 1) t ∧ Rd wr rb E q ∧ Cel wr n0 27 [.slice none 0 0, .slice none 0 0, .slice none 0 0] ∧ Kp (upP n0) w wr ∧ TbFew 1 t ∧ (q.e = 0 → TbFew 0 t)) (fun wr => remM rb wr)
    case atStart => exact ⟨ts.length + 1, tb0, ⟨ts, 0, 0⟩, HTR.out, (fun _ => Nat.lt_succ_self _), ⟨_, _, _, HT3.out⟩, HR3.out, HN3.out, HK3.out, ⟨Nat.zero_le _, Nat.zero_le _, Nat.zero_le _⟩, fun _ => HF0.out⟩
    case round =>
      obtain ⟨n, t, q, hst, hln, hl, hr, hN, hk, hf, hf0⟩ := hrel
      have HST := Lib.hid hst
      have HT := Lib.hid hl
      have HR := Lib.hid hr
      have HN := Lib.hid hN
      have HK := Lib.hid hk
      have HF := Lib.hid hf
      obtain ⟨ad', c', tb', off', hcel, _, _, _, _, _⟩ := hr
      have c0 := hcel.cell 0
      have c2 := hcel.cell 2
      have c3 := hcel.cell 3
      simp only [List.getElem?_cons_zero, List.getElem?_cons_succ] at c0 c2 c3
      have hlq := hcel.lt
      clear hst hl hN hk hf hcel
      by_cases he : q.e = 0
      · by_cases hne : q.l = []
        · have HTq : Hid (R = (t, q)) := by
            have hst := HST.out
            unfold Hid
            rw [← hst]
            cases n with
            | zero => exact HNZ.out t q
            | succ m => rw [HNX.out, if_neg (fun h => h.2 hne)]
          have hres : res = (t, 0, 0) := by
            rw [HV2.out, HTq.out, if_pos he]
          rw [he] at c3
          rw [hne] at c0
          simp only [List.length_nil] at c0
          have HF0q := Lib.hid (hf0 he)
          clear hf0 hln
          obtain ⟨v0, v1, v2, ht⟩ := HT.out
          obtain ⟨a0, k0, hv0⟩ := ht.g0.shape
          subst hv0
          obtain ⟨a1, k1, hv1⟩ := ht.g1.shape
          subst hv1
          obtain ⟨a2, k2, hv2⟩ := ht.g2.shape
          subst hv2
          have HTV := Lib.hid ht
          have d0 := ht.cel.cell 0
          have d1 := ht.cel.cell 1
          have d2 := ht.cel.cell 2
          simp only [List.getElem?_cons_zero, List.getElem?_cons_succ] at d0 d1 d2
          have hTl := ht.cel.lt
          clear ht
          have r0 := HN.out.cell 0
          have rf0 := HN.out.frz 0
          have r1 := HN.out.cell 1
          have rf1 := HN.out.frz 1
          have r2 := HN.out.cell 2
          have rf2 := HN.out.frz 2
          simp only [List.getElem?_cons_zero, List.getElem?_cons_succ] at r0 r1 r2
          have hNt := HN.out.lt
          go_wp2_with fail
          have hN9 := (((HN.out.set 0 (.slice a0 t.locs.length k0)).set 1 (.slice a1 t.als.length k1)).set 2 (.slice a2 t.near.length k2))
          have hk9 := (((HK.out.set (p := ⟨n0, 0, none⟩) (upP_up (Nat.le_refl n0)) (.slice a0 t.locs.length k0)).set (p := ⟨n0, 1, none⟩) (upP_up (Nat.le_refl n0)) (.slice a1 t.als.length k1)).set (p := ⟨n0, 2, none⟩) (upP_up (Nat.le_refl n0)) (.slice a2 t.near.length k2))
          refine bodyPost_ret (results_cell_row3 rfl _ _ n0 _ rfl (run_loadVar_row _ n0 27 27 #[.slice a0 t.locs.length k0, .slice a1 t.als.length k1, .slice a2 t.near.length k2] (0, 0) _ hN9 Tryz.underlying27 rfl (by kernel_rfl))) rfl ?_
          exact ⟨fun j => (#[.slice a0 t.locs.length k0, .slice a1 t.als.length k1, .slice a2 t.near.length k2] : Array Value).getD j undef, by rw [hres]; rfl, by rw [hres]; exact ((HTV.out.tbC HF.out).sub ((see_sub (Kp.kptO (b := n0) ((((Kp.refl (oneP n0) wr).set (p := ⟨n0, 0, none⟩) (oneP_self n0) (.slice a0 t.locs.length k0)).set (p := ⟨n0, 1, none⟩) (oneP_self n0) (.slice a1 t.als.length k1)).set (p := ⟨n0, 2, none⟩) (oneP_self n0) (.slice a2 t.near.length k2)) HN.out (by decide))).trans (see_le _ (by omega) fun _ h => h))), hk9.below w.heap.size (Nat.le_refl _) (fun k hk => decide_eq_false (by omega))⟩
        · have hpos : 0 < q.l.length := by
            cases hq : q.l with
            | nil => exact absurd hq hne
            | cons a b => simp
          have HF0q := Lib.hid (hf0 he)
          have HLN := Lib.hid (hln he)
          have HRM := Lib.hid (remM_ok HR.out he)
          obtain ⟨m, rfl⟩ : ∃ m, n = m + 1 := ⟨n - 1, by have := HLN.out; omega⟩
          have hst := HST.out
          rw [HNX.out, if_pos ⟨he, hne⟩] at hst
          have HST2 := Lib.hid hst
          have HPA := Lib.hid (part_any rb E (rb + 1) (rb + 1) t q wr HR.out (Nat.lt_succ_self _) HT.out ⟨HM.out _ (HK.out.below w.heap.size (Nat.le_refl _) (fun k hk => decide_eq_false (by omega))), by omega⟩ (by have := HF0q.out.locs; omega) (by have := HF0q.out.als; omega) (by have := HF0q.out.near; omega))
          have HLT := Lib.hid (fun (g : (tPart E t q).2.e = 0) => tPart_lt (t := t) (r := q) g)
          have HFW := Lib.hid (TbFew.part (E := E) (r := q) HF0q.out)
          unfold TabP at HPA
          rw [he] at c3
          clear hst HST hf0 hln hne
          generalize tPart E t q = tq at *
          obtain ⟨t', q'⟩ := tq
          simp only at HPA HST2 HLT HFW
          go_wp2_with fail
          refine HPA.out.mono ?_
          rintro _ w8 ⟨rfl, hl8, hr8, hk8⟩
          have HRM8 : Hid (remM rb w8 < remM rb wr) := by
            unfold Hid
            rw [HRM.out]
            by_cases h : q'.e = 0
            · rw [remM_ok hr8 h]
              have := HLT.out h
              omega
            · rw [remM_no hr8 h]; omega
          have HT8 := Lib.hid hl8
          have HR8 := Lib.hid hr8
          have HN8 := Lib.hid (HN.out.kp hk8 (itemP_no hrbn (by omega)))
          have HK8 := Lib.hid (HK.out.trans (hk8.le fun k _ hq => decide_eq_true (by
            unfold itemP at hq
            rw [Bool.or_eq_true, decide_eq_true_eq, decide_eq_true_eq] at hq
            omega)) : Kp (upP n0) w w8)
          clear hl8 hr8 hk8
          go_wp2_with fail
          go_roundw
          case rel => exact ⟨m, t', q', HST2.out, (fun h => by have := HLT.out h; have := HLN.out; omega), HT8.out, HR8.out, HN8.out, HK8.out, HFW.out.1, HFW.out.2⟩
          case measure => exact HRM8.out
      · have HTq : Hid (R = (t, q)) := by
          have hst := HST.out
          unfold Hid
          rw [← hst]
          cases n with
          | zero => exact HNZ.out t q
          | succ m => rw [HNX.out, if_neg (fun h => he h.1)]
        have hres : res = (tb0, q.pos, q.e) := by
          rw [HV2.out, HTq.out, if_neg he]
        have hz : (q.e == 0) = false := by simpa using he
        have hz2 : (q.e != 0) = true := by unfold bne; rw [hz]; rfl
        clear hf0 hln
        have r0 := HN.out.cell 0
        have rf0 := HN.out.frz 0
        have r1 := HN.out.cell 1
        have rf1 := HN.out.frz 1
        have r2 := HN.out.cell 2
        have rf2 := HN.out.frz 2
        simp only [List.getElem?_cons_zero, List.getElem?_cons_succ] at r0 r1 r2
        have hNt := HN.out.lt
        go_wp2_with fail
        go_region
        all_goals go_wp2_with fail
        have hN9 := Cel.below (((HN.out.set 0 (.slice none 0 0)).set 1 (.slice none 0 0)).set 2 (.slice none 0 0)) (Bel.drew (Bel.refl _))
        have hk9 := Kp.drew (((HK.out.set (p := ⟨n0, 0, none⟩) (upP_up (Nat.le_refl n0)) (.slice none 0 0)).set (p := ⟨n0, 1, none⟩) (upP_up (Nat.le_refl n0)) (.slice none 0 0)).set (p := ⟨n0, 2, none⟩) (upP_up (Nat.le_refl n0)) (.slice none 0 0))
        refine bodyPost_ret (results_cell_row3 rfl _ _ n0 _ rfl (run_loadVar_row _ n0 27 27 #[.slice none 0 0, .slice none 0 0, .slice none 0 0] (0, 0) _ hN9 Tryz.underlying27 rfl (by kernel_rfl))) rfl ?_
        exact ⟨fun j => (#[.slice none 0 0, .slice none 0 0, .slice none 0 0] : Array Value).getD j undef, by rw [hres]; rfl, by rw [hres]; exact TbC.zero _, hk9.below w.heap.size (Nat.le_refl _) (fun k hk => decide_eq_false (by omega))⟩
  · rw [if_neg he] at HV
    have hz : (terr == 0) = false := by simpa using he
    have hz2 : (terr != 0) = true := by unfold bne; rw [hz]; rfl
    have hres : res = (tb0, tpos, terr) := HV.out
    have r0 := HN1.out.cell 0
    have rf0 := HN1.out.frz 0
    have r1 := HN1.out.cell 1
    have rf1 := HN1.out.frz 1
    have r2 := HN1.out.cell 2
    have rf2 := HN1.out.frz 2
    simp only [List.getElem?_cons_zero, List.getElem?_cons_succ] at r0 r1 r2
    have hNt := HN1.out.lt
    go_wp2_with fail
    have hN9 := (((HN1.out.set 0 (.slice none 0 0)).set 1 (.slice none 0 0)).set 2 (.slice none 0 0))
    have hk9 := (((HK1.out.set (p := ⟨n0, 0, none⟩) (upP_up (Nat.le_refl n0)) (.slice none 0 0)).set (p := ⟨n0, 1, none⟩) (upP_up (Nat.le_refl n0)) (.slice none 0 0)).set (p := ⟨n0, 2, none⟩) (upP_up (Nat.le_refl n0)) (.slice none 0 0))
    refine bodyPost_ret (results_cell_row3 rfl _ _ n0 _ rfl (run_loadVar_row _ n0 27 27 #[.slice none 0 0, .slice none 0 0, .slice none 0 0] (0, 0) _ hN9 Tryz.underlying27 rfl (by kernel_rfl))) rfl ?_
    exact ⟨fun j => (#[.slice none 0 0, .slice none 0 0, .slice none 0 0] : Array Value).getD j undef, by rw [hres]; rfl, by rw [hres]; exact TbC.zero _, hk9.below w.heap.size (Nat.le_refl _) (fun k hk => decide_eq_false (by omega))⟩
end Go.Proofs.YtmleeodfmmpdgaaGreatDoor
