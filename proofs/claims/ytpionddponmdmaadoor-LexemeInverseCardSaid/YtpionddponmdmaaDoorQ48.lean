/- Plain: the tokens of a spelled line are those that were spelled; the tokens of a string can be spelled. -/
import Derived.Test.YtpionddponmdmaaDoorQ47
import Derived.Test.YtpionddponmdmaaDoorQ42
namespace Go.Proofs.YtpionddponmdmaaDoor
open Go.RowKit
def Sep (T : List UInt8) : Prop := T = [] ∨ ∃ r, T = 32 :: r
theorem takeWhile_sep (x : List UInt8) {T : List UInt8} (h : Sep T) : (x ++ T).takeWhile (innerL.contains ·) = x.takeWhile (innerL.contains ·) := by
  induction x with
  | nil =>
    rcases h with rfl | ⟨r, rfl⟩
    · rfl
    · rfl
  | cons c x ih =>
    rw [List.cons_append, List.takeWhile_cons, List.takeWhile_cons]
    split
    · rw [ih]
    · rfl
theorem takeWhile_idem (p : UInt8 → Bool) : ∀ x : List UInt8, (x.takeWhile p).takeWhile p = x.takeWhile p
  | [] => rfl
  | c :: x => by
    by_cases h : p c = true
    · rw [List.takeWhile_cons, if_pos h, List.takeWhile_cons, if_pos h, takeWhile_idem p x]
    · rw [List.takeWhile_cons, if_neg h]; rfl
theorem wordLen_sep (x : List UInt8) {T : List UInt8} (h : Sep T) : wordLen (x ++ T) = wordLen x := by unfold wordLen; rw [takeWhile_sep x h]
/-- a token that can be spelled begins with no blank and no comment -/
def Lead (w : List UInt8) : Prop := ∃ c r, w = c :: r ∧ c ∉ blanksL ∧ c ≠ 35
theorem lead_skip {w : List UInt8} (h : Lead w) (T : List UInt8) : skipS false (w ++ T) = 0 := by
  obtain ⟨c, r, rfl, h1, h2⟩ := h
  rw [List.cons_append, skipS, if_neg h1, if_neg h2]
theorem inner_lead : ∀ c ∈ innerL, c ∉ blanksL ∧ c ≠ 35 := by decide
theorem marks_lead : ∀ c ∈ marksL, c ∉ blanksL ∧ c ≠ 35 := by decide
theorem isWord_parts {l : List UInt8} (h : isWordV l = true) : l ≠ [] ∧ l.length ≤ 40 ∧ wordLen l = l.length := by
  simpa [isWordV, and_assoc] using h
theorem isMark_parts {l : List UInt8} (h : isMarkV l = true) : ∃ c, l = [c] ∧ c ∈ marksL := by
  simp only [isMarkV, Bool.and_eq_true, decide_eq_true_eq] at h
  obtain ⟨h1, h2⟩ := h
  match l, h1 with
  | [c], _ => exact ⟨c, rfl, h2⟩
theorem okZ_cases {t : Tz} (h : okZ t = true) : (t.1 = 1 ∧ isWordV t.2.1 = true) ∨ (t.1 = 3 ∧ isMarkV t.2.1 = true) ∨ (t.1 = 2 ∧ isTextV t.2.1 = true) := by
  simp only [okZ, Bool.or_eq_true, Bool.and_eq_true, decide_eq_true_eq] at h
  rcases h with (h | h) | h
  · exact .inl h
  · exact .inr (.inl h)
  · exact .inr (.inr h)
/-- what Tokens reads at the beginning of a spelled token -/
theorem token_front {t : Tz} (h : okZ t = true) {T : List UInt8} (hT : Sep T) :
    Lead (wordZ t) ∧ ((nextV (wordZ t ++ T) 0).1.1 : Int) = t.1 ∧ (nextV (wordZ t ++ T) 0).1.2.1 = t.2.1 ∧ (nextV (wordZ t ++ T) 0).2.1 = (wordZ t).length ∧ (nextV (wordZ t ++ T) 0).2.2.2 = 0 := by
  obtain ⟨k, l, p⟩ := t
  rcases okZ_cases h with ⟨h1, h2⟩ | ⟨h1, h2⟩ | ⟨h1, h2⟩
  · replace h1 : k = 1 := h1
    replace h2 : isWordV l = true := h2
    subst h1
    have hw : wordZ (1, l, p) = l := by unfold wordZ; rw [if_neg (show ¬ (1 : Int) = 2 by decide)]
    obtain ⟨h3, h4, h5⟩ := isWord_parts h2
    rw [hw]
    have h6 := wordLen_sep l hT
    match l, h3 with
    | c :: r, _ =>
      have hpos : 0 < (c :: r ++ T : List UInt8).length := by simp
      have hwl : 0 < wordLen ((c :: r ++ T : List UInt8).drop 0) := by rw [List.drop_zero, h6, h5]; simp
      have hc := (wordLen_mem hpos).1 hwl
      have hn := next_word hpos hwl
      rw [List.drop_zero, h6, h5, if_neg (by omega), List.take_left] at hn
      have hk := inner_lead c hc
      rw [hn]
      exact ⟨⟨c, r, rfl, hk.1, hk.2⟩, rfl, rfl, rfl, rfl⟩
  · replace h1 : k = 3 := h1
    replace h2 : isMarkV l = true := h2
    subst h1
    have hw : wordZ (3, l, p) = l := by unfold wordZ; rw [if_neg (show ¬ (3 : Int) = 2 by decide)]
    obtain ⟨c, rfl, hc⟩ := isMark_parts h2
    rw [hw]
    have hk := marks_lead c hc
    have hn := next_mark (l := [c] ++ T) (i := 0) hc
    rw [hn]
    exact ⟨⟨c, [], rfl, hk.1, hk.2⟩, rfl, rfl, rfl, rfl⟩
  · replace h1 : k = 2 := h1
    replace h2 : isTextV l = true := h2
    subst h1
    have hw : wordZ (2, l, p) = 34 :: (escS l ++ [34]) := by unfold wordZ; rw [if_pos rfl]
    simp only [isTextV, Bool.and_eq_true, decide_eq_true_eq] at h2
    obtain ⟨h3, h4⟩ := h2
    rw [hw]
    have hq := next_quote (l := 34 :: (escS l ++ [34]) ++ T) (i := 0) rfl
    have hd : (34 :: (escS l ++ [34]) ++ T : List UInt8).drop (0 + 1) = escS l ++ 34 :: T := by simp
    have he : endL ((34 :: (escS l ++ [34]) ++ T : List UInt8).drop (0 + 1)) = some (escS l).length := by rw [hd]; exact endL_escS l T
    have ht : ((34 :: (escS l ++ [34]) ++ T : List UInt8).drop (0 + 1)).take (escS l).length = escS l := by rw [hd, List.take_left]
    have hv := quotedV_some he
    rw [ht, unescV_esc] at hv
    rw [if_neg (by simp), if_neg (by show ¬ 400 < l.length; omega), if_neg (by show ¬ Lib.validD l = false; rw [h4]; simp)] at hv
    rw [hq, hv]
    exact ⟨⟨34, _, rfl, by decide, by decide⟩, rfl, rfl, by simp, rfl⟩
/-- a string's tokens are these -/
def Spelled (z : List UInt8) (xs : List Tz) : Prop :=
  (∀ k, k < xs.length → posV z k < z.length ∧ (itemV z k).2.2.2 = 0 ∧ ((itemV z k).1.1 : Int) = (xs.getD k tz0).1 ∧ (itemV z k).1.2.1 = (xs.getD k tz0).2.1) ∧ z.length ≤ posV z xs.length
def lineZ (xs : List Tz) : List UInt8 := Lib.join (xs.map wordZ) [32]
theorem lineZ_two (t t2 : Tz) (ts : List Tz) : lineZ (t :: t2 :: ts) = wordZ t ++ 32 :: lineZ (t2 :: ts) := by
  simp [lineZ, Lib.join, List.intercalate]
theorem lineZ_one (t : Tz) : lineZ [t] = wordZ t := by simp [lineZ, Lib.join, List.intercalate]
theorem spelled_line : ∀ xs : List Tz, (∀ x ∈ xs, okZ x = true) → Spelled (lineZ xs) xs
  | [], _ => ⟨fun k h => absurd h (Nat.not_lt_zero _), Nat.zero_le _⟩
  | [t], h => by
    obtain ⟨f0, f1, f2, f3, f4⟩ := token_front (h t (List.mem_singleton.2 rfl)) (T := []) (.inl rfl)
    rw [List.append_nil] at f1 f2 f3 f4
    have h0 := lead_skip f0 []
    rw [List.append_nil] at h0
    have hp : posV (wordZ t) 0 = 0 := by show 0 + skipS false ((wordZ t).drop 0) = 0; rw [List.drop_zero, h0]
    have hl : 0 < (wordZ t).length := by obtain ⟨c, r, e, _⟩ := f0; rw [e]; simp
    rw [lineZ_one]
    refine ⟨fun k hk => ?_, ?_⟩
    · obtain rfl : k = 0 := by simp at hk; omega
      unfold itemV
      rw [hp]
      exact ⟨hl, f4, f1, f2⟩
    · show _ ≤ posV (wordZ t) 1
      show _ ≤ skipAt (wordZ t) (posV (wordZ t) 0 + (nextV (wordZ t) (posV (wordZ t) 0)).2.1)
      rw [hp, f3]
      unfold skipAt
      omega
  | t :: t2 :: ts, h => by
    have ih := spelled_line (t2 :: ts) (fun x hx => h x (List.mem_cons_of_mem _ hx))
    obtain ⟨f0, f1, f2, f3, f4⟩ := token_front (h t (List.mem_cons_self ..)) (T := 32 :: lineZ (t2 :: ts)) (.inr ⟨_, rfl⟩)
    have h0 := lead_skip f0 (32 :: lineZ (t2 :: ts))
    rw [lineZ_two]
    generalize lineZ (t2 :: ts) = r at *
    generalize wordZ t = w at *
    have hp : posV (w ++ 32 :: r) 0 = 0 := by show 0 + skipS false ((w ++ 32 :: r).drop 0) = 0; rw [List.drop_zero, h0]
    have hz : w ++ 32 :: r = (w ++ [32]) ++ r := by simp
    have hcl : (w ++ [32]).length = w.length + 1 := by simp
    have hs : ∀ j, posV (w ++ 32 :: r) (1 + j) = w.length + 1 + posV r j ∧ Alike (itemV (w ++ 32 :: r) (1 + j)) (itemV r j) := fun j => by
      have step : ∀ j, posV (w ++ 32 :: r) (1 + j) = w.length + 1 + posV r j → Alike (itemV (w ++ 32 :: r) (1 + j)) (itemV r j) := fun j e => by
        unfold itemV
        rw [e, hz, ← hcl]
        exact next_shift _ _ _
      induction j with
      | zero =>
        have e : posV (w ++ 32 :: r) (1 + 0) = w.length + 1 + posV r 0 := by
          show skipAt (w ++ 32 :: r) (posV (w ++ 32 :: r) 0 + (nextV (w ++ 32 :: r) (posV (w ++ 32 :: r) 0)).2.1) = w.length + 1 + (0 + skipS false (r.drop 0))
          rw [hp, f3]
          unfold skipAt
          rw [Nat.zero_add, List.drop_left, List.drop_zero, skipS, if_pos (by decide)]
          omega
        exact ⟨e, step 0 e⟩
      | succ j ihj =>
        obtain ⟨p1, p2⟩ := ihj
        have e : posV (w ++ 32 :: r) (1 + (j + 1)) = w.length + 1 + posV r (j + 1) := by
          show skipAt _ (posV (w ++ 32 :: r) (1 + j) + (itemV (w ++ 32 :: r) (1 + j)).2.1) = _ + skipAt _ (_ + (itemV r j).2.1)
          rw [p1, p2.2.2.1, hz, ← hcl, Nat.add_assoc, skipAt_shift]
        exact ⟨e, step _ e⟩
    refine ⟨fun k hk => ?_, ?_⟩
    · cases k with
      | zero =>
        have hl : 0 < (w ++ 32 :: r).length := by simp; omega
        unfold itemV
        rw [hp]
        exact ⟨hl, f4, f1, f2⟩
      | succ j =>
        obtain ⟨q1, q2, q3, q4⟩ := ih.1 j (by simpa using hk)
        obtain ⟨p1, p2⟩ := hs j
        rw [Nat.add_comm j 1]
        refine ⟨?_, ?_, ?_, ?_⟩
        · rw [p1]; simp; omega
        · rw [p2.2.2.2]; exact q2
        · rw [p2.1, q3, Nat.add_comm 1 j]; rfl
        · rw [p2.2.1, q4, Nat.add_comm 1 j]; rfl
    · have := (hs (t2 :: ts).length).1
      rw [show (t :: t2 :: ts).length = 1 + (t2 :: ts).length by simp; omega, this]
      have := ih.2
      simp at this ⊢
      omega
theorem spelled_run {z : List UInt8} {xs : List Tz} (h : Spelled z xs) {M : Nat} (hr : RunP z M) : M = xs.length ∧ (∀ k, k < M → (itemV z k).2.2.2 = 0) ∧ sameZ ((upto (itemV z) M).map zOf) xs = true := by
  have hM := run_unique hr (fun k hk => ⟨(h.1 k hk).1, (h.1 k hk).2.1⟩) h.2
  subst hM
  refine ⟨rfl, fun k hk => (h.1 k hk).2.1, decide_eq_true (getD_extZ (by rw [List.length_map, upto_length]) (fun i hi => ?_))⟩
  rw [List.length_map, upto_length] at hi
  obtain ⟨_, _, q3, q4⟩ := h.1 i hi
  rw [zOf_getD _ (by rw [upto_length]; exact hi)]
  have hg : (upto (itemV z) xs.length).getD i (badN 0 0) = itemV z i := by unfold upto; simp [List.getD, hi]
  rw [hg]
  unfold keyZ zOf
  rw [q3, q4]
/-- a token that was read can be spelled -/
theorem next_ok {l : List UInt8} {i : Nat} (hi : i < l.length) (h : (nextV l i).2.2.2 = 0) : okZ (zOf (nextV l i)) = true ∧ (nextV l i).1.2.1.length ≤ (nextV l i).2.1 := by
  by_cases hw : 0 < wordLen (l.drop i)
  · have hn := next_word hi hw
    by_cases h4 : 40 < wordLen (l.drop i)
    · rw [if_pos h4] at hn
      rw [hn] at h
      exact absurd (show (6 : Nat) = 0 from h) (by decide)
    · rw [if_neg h4] at hn
      rw [hn]
      have hle := wordLen_le (l.drop i)
      have hlt : ((l.drop i).take (wordLen (l.drop i))).length = wordLen (l.drop i) := by rw [List.length_take]; omega
      have hww : wordLen ((l.drop i).take (wordLen (l.drop i))) = wordLen (l.drop i) := by
        have e : (l.drop i).take (wordLen (l.drop i)) = (l.drop i).takeWhile (innerL.contains ·) := (List.prefix_iff_eq_take.1 (List.takeWhile_prefix _)).symm
        rw [e]
        unfold wordLen
        rw [takeWhile_idem]
      refine ⟨?_, by show _ ≤ wordLen (l.drop i); rw [hlt]; exact Nat.le_refl _⟩
      show okZ (((1 : Nat) : Int), _, _) = true
      rw [show ((1 : Nat) : Int) = 1 from rfl, okZ_1]
      have hA : isWordV ((l.drop i).take (wordLen (l.drop i))) = true := by
        generalize (l.drop i).take (wordLen (l.drop i)) = X at *
        unfold isWordV
        rw [decide_eq_true (p := X ≠ []) (fun e => by rw [e] at hlt; simp at hlt; omega), decide_eq_true (p := X.length ≤ 40) (by omega), decide_eq_true (p := wordLen X = X.length) (by omega)]
        rfl
      exact hA
  · by_cases h34 : l.getD i 0 = 34
    · rw [next_quote h34] at h ⊢
      cases hn : endL (l.drop (i + 1)) with
      | none => rw [quotedV_none hn] at h; exact absurd (show (3 : Nat) = 0 from h) (by decide)
      | some n =>
        rw [quotedV_some hn] at h ⊢
        have hul := (unescV_len ((l.drop (i + 1)).take n)).1
        rw [List.length_take] at hul
        split at h
        · exact absurd (show (3 : Nat) = 0 from h) (by decide)
        · rename_i h1
          rw [if_neg h1]
          split at h
          · exact absurd (show (6 : Nat) = 0 from h) (by decide)
          · rename_i h2
            rw [if_neg h2]
            split at h
            · exact absurd (show (4 : Nat) = 0 from h) (by decide)
            · rename_i h3
              rw [if_neg h3]
              refine ⟨?_, by show (unescV ((l.drop (i + 1)).take n)).1.length ≤ n + 2; omega⟩
              show okZ (((2 : Nat) : Int), _, _) = true
              rw [show ((2 : Nat) : Int) = 2 from rfl, okZ_2]
              have hB : isTextV (unescV ((l.drop (i + 1)).take n)).1 = true := by
                generalize (unescV ((l.drop (i + 1)).take n)).1 = X at *
                unfold isTextV
                rw [decide_eq_true (p := X.length ≤ 400) (by omega)]
                cases hv : Lib.validD X
                · exact absurd hv h3
                · rfl
              exact hB
    · by_cases hm : l.getD i 0 ∈ marksL
      · rw [next_mark hm]
        refine ⟨?_, Nat.le_refl _⟩
        show okZ (((3 : Nat) : Int), _, _) = true
        rw [show ((3 : Nat) : Int) = 3 from rfl, okZ_3]
        unfold isMarkV
        rw [decide_eq_true (by rfl), decide_eq_true (by exact hm)]
        rfl
      · rw [next_else hw h34 hm] at h
        exact absurd (show (3 : Nat) = 0 from h) (by decide)
/-- the texts of the tokens that were read are no longer than what was read -/
def textSum (xs : List Tz) : Nat := (xs.map fun x => x.2.1.length).sum
theorem textSum_snoc (xs : List Tz) (x : Tz) : textSum (xs ++ [x]) = textSum xs + x.2.1.length := by simp [textSum]
theorem texts_le {l : List UInt8} {M : Nat} (hr : RunP l M) (hok : ∀ k, k < M → (itemV l k).2.2.2 = 0) : ∀ k, k ≤ M → textSum ((upto (itemV l) k).map zOf) ≤ posV l k
  | 0, _ => Nat.zero_le _
  | k + 1, h => by
    have ih := texts_le hr hok k (by omega)
    have h1 := (next_ok (hr.1 k (by omega)) (hok k (by omega))).2
    rw [upto_succ, List.map_append, List.map_singleton, textSum_snoc]
    show _ ≤ skipAt l (posV l k + (nextV l (posV l k)).2.1)
    unfold skipAt
    replace h1 : (itemV l k).1.2.1.length ≤ (nextV l (posV l k)).2.1 := h1
    show _ + (itemV l k).1.2.1.length ≤ _
    omega
theorem pos_le {l : List UInt8} {M : Nat} (hr : RunP l M) (hok : ∀ k, k < M → (itemV l k).2.2.2 = 0) : posV l M ≤ l.length := by
  cases M with
  | zero => exact skipAt_le l (Nat.zero_le _)
  | succ k => exact skipAt_le l (next_len l _ (hr.1 k (by omega)))
theorem lineZ_len : ∀ xs : List Tz, (lineZ xs).length ≤ 4 * textSum xs + 3 * xs.length
  | [] => Nat.zero_le _
  | [t] => by
    have hw : (wordZ t).length ≤ 4 * t.2.1.length + 2 := by
      have := escS_len t.2.1
      unfold wordZ
      split
      · simp; omega
      · omega
    rw [lineZ_one]
    simp [textSum]
    omega
  | t :: t2 :: ts => by
    have ih := lineZ_len (t2 :: ts)
    have hw : (wordZ t).length ≤ 4 * t.2.1.length + 2 := by
      have := escS_len t.2.1
      unfold wordZ
      split
      · simp; omega
      · omega
    rw [lineZ_two, List.length_append, List.length_cons, List.length_cons]
    have : textSum (t :: t2 :: ts) = t.2.1.length + textSum (t2 :: ts) := by simp [textSum]
    omega
theorem okZ_len {t : Tz} (h : okZ t = true) : t.2.1.length ≤ 400 := by
  rcases okZ_cases h with ⟨_, h⟩ | ⟨_, h⟩ | ⟨_, h⟩
  · have := (isWord_parts h).2.1; omega
  · obtain ⟨c, e, _⟩ := isMark_parts h; rw [e]; simp
  · simp only [isTextV, Bool.and_eq_true, decide_eq_true_eq] at h; exact h.1
theorem textSum_le : ∀ xs : List Tz, (∀ x ∈ xs, x.2.1.length ≤ 400) → textSum xs ≤ 400 * xs.length
  | [], _ => Nat.zero_le _
  | t :: ts, h => by
    have ih := textSum_le ts (fun x hx => h x (List.mem_cons_of_mem _ hx))
    have := h t (List.mem_cons_self ..)
    have e : textSum (t :: ts) = t.2.1.length + textSum ts := by simp [textSum]
    rw [e, List.length_cons]
    omega
end Go.Proofs.YtpionddponmdmaaDoor
