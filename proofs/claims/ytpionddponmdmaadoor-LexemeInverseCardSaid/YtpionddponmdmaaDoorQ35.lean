/- Plain: the tokens of two strings with a line feed, blanks and comments between them. -/
import Derived.Test.YtpionddponmdmaaDoorQ32
import Derived.Test.YtpionddponmdmaaDoorQ34
import Derived.Laws.AppendOwnNone
namespace Go.Proofs.YtpionddponmdmaaDoor
open Go.RowKit
theorem skipT_nil (l : List UInt8) : skipS true (10 :: l) = 1 + skipS false l := by rw [skipS, if_pos rfl]
theorem skipF_nl (l : List UInt8) : skipS false (10 :: l) = 1 + skipS false l := by rw [skipS, if_pos (by decide)]
theorem skip_app : ∀ (m : Bool) (x t : List UInt8), skipS m (x ++ 10 :: t) = if skipS m x < x.length then skipS m x else x.length + 1 + skipS false t
  | true, [], t => by rw [List.nil_append, skipT_nil, if_neg (by simp [skipS])]; simp
  | false, [], t => by rw [List.nil_append, skipF_nl, if_neg (by simp [skipS])]; simp
  | true, c :: x, t => by
    rw [List.cons_append, skipS, skipS, List.length_cons]
    by_cases h : c = 10
    · rw [if_pos h, if_pos h, skip_app false x t]
      by_cases h2 : skipS false x < x.length
      · rw [if_pos h2, if_pos (by omega)]
      · rw [if_neg h2, if_neg (by omega)]; omega
    · rw [if_neg h, if_neg h, skip_app true x t]
      by_cases h2 : skipS true x < x.length
      · rw [if_pos h2, if_pos (by omega)]
      · rw [if_neg h2, if_neg (by omega)]; omega
  | false, c :: x, t => by
    rw [List.cons_append, skipS, skipS, List.length_cons]
    by_cases h : c ∈ blanksL
    · rw [if_pos h, if_pos h, skip_app false x t]
      by_cases h2 : skipS false x < x.length
      · rw [if_pos h2, if_pos (by omega)]
      · rw [if_neg h2, if_neg (by omega)]; omega
    · rw [if_neg h, if_neg h]
      by_cases h3 : c = 35
      · rw [if_pos h3, if_pos h3, skip_app true x t]
        by_cases h2 : skipS true x < x.length
        · rw [if_pos h2, if_pos (by omega)]
        · rw [if_neg h2, if_neg (by omega)]; omega
      · rw [if_neg h3, if_neg h3, if_pos (by omega)]
theorem takeWhile_nl (x t : List UInt8) : (x ++ 10 :: t).takeWhile (innerL.contains ·) = x.takeWhile (innerL.contains ·) := by
  induction x with
  | nil => rfl
  | cons c x ih =>
    rw [List.cons_append, List.takeWhile_cons, List.takeWhile_cons]
    split
    · rw [ih]
    · rfl
theorem wordLen_nl (x t : List UInt8) : wordLen (x ++ 10 :: t) = wordLen x := by unfold wordLen; rw [takeWhile_nl]
theorem endL_app : ∀ {x : List UInt8} {n : Nat} (t : List UInt8), endL x = some n → endL (x ++ t) = some n
  | [], n, t, h => by cases h
  | [c], n, t, h => by
    by_cases e : c = 34
    · subst e
      simp [endL] at h
      subst h
      cases t with
      | nil => rfl
      | cons d t => simp [endL]
    · simp [endL, e] at h
  | c :: d :: r, n, t, h => by
    unfold endL at h
    show endL (c :: d :: (r ++ t)) = some n
    unfold endL
    split at h
    · rename_i h1; rw [if_pos h1]; exact h
    · rename_i h1
      rw [if_neg h1]
      split at h
      · rename_i h2
        obtain ⟨j, h3, rfl⟩ := Option.map_eq_some_iff.1 h
        rw [if_pos h2, endL_app t h3]; rfl
      · rename_i h2
        obtain ⟨j, h3, rfl⟩ := Option.map_eq_some_iff.1 h
        rw [if_neg h2]
        have := endL_app t h3
        rw [List.cons_append] at this
        rw [this]; rfl
theorem getD_app {a t : List UInt8} {i : Nat} (hi : i < a.length) : (a ++ t).getD i 0 = a.getD i 0 := by
  rw [List.getD, List.getD, List.getElem?_append_left hi]
theorem next_app {a t : List UInt8} {i : Nat} (hi : i < a.length) (hok : (nextV a i).2.2.2 = 0) : nextV (a ++ 10 :: t) i = nextV a i := by
  have hd : (a ++ 10 :: t).drop i = a.drop i ++ 10 :: t := List.drop_append_of_le_length (by omega)
  have hw : wordLen ((a ++ 10 :: t).drop i) = wordLen (a.drop i) := by rw [hd, wordLen_nl]
  have hg : (a ++ 10 :: t).getD i 0 = a.getD i 0 := getD_app hi
  have ht : ((a ++ 10 :: t).drop i).take (wordLen (a.drop i)) = (a.drop i).take (wordLen (a.drop i)) := by
    rw [hd, List.take_append_of_le_length (wordLen_le _)]
  unfold nextV at hok ⊢
  rw [hg, hw, ht]
  by_cases h1 : a.getD i 0 ∈ marksL
  · rw [if_pos h1, if_pos h1]
  rw [if_neg h1] at hok
  rw [if_neg h1, if_neg h1]
  by_cases h2 : a.getD i 0 = 34
  · rw [if_pos h2] at hok
    rw [if_pos h2, if_pos h2]
    cases hn : endL (a.drop (i + 1)) with
    | none => rw [quotedV_none hn] at hok; exact absurd (show (3 : Nat) = 0 from hok) (by decide)
    | some n =>
      have hlt := endL_ltN hn
      have hd2 : (a ++ 10 :: t).drop (i + 1) = a.drop (i + 1) ++ 10 :: t := List.drop_append_of_le_length (by omega)
      have hn2 : endL ((a ++ 10 :: t).drop (i + 1)) = some n := by rw [hd2]; exact endL_app _ hn
      have ht2 : ((a ++ 10 :: t).drop (i + 1)).take n = (a.drop (i + 1)).take n := by rw [hd2, List.take_append_of_le_length (by omega)]
      rw [quotedV_some hn, quotedV_some hn2, ht2]
  · rw [if_neg h2, if_neg h2]
/-- two answers alike but for the place -/
def Alike (x y : Nx) : Prop := x.1.1 = y.1.1 ∧ x.1.2.1 = y.1.2.1 ∧ x.2.1 = y.2.1 ∧ x.2.2.2 = y.2.2.2
theorem Alike.bad (i j e : Nat) : Alike (badN i e) (badN j e) := ⟨rfl, rfl, rfl, rfl⟩
theorem drop_past (c b : List UInt8) (i : Nat) : (c ++ b).drop (c.length + i) = b.drop i := by rw [← List.drop_drop, List.drop_left]
theorem quoted_shift (c b : List UInt8) (i : Nat) : Alike (quotedV (c ++ b) (c.length + i)) (quotedV b i) := by
  have hd : (c ++ b).drop (c.length + i + 1) = b.drop (i + 1) := by rw [show c.length + i + 1 = c.length + (i + 1) by omega, drop_past]
  cases hn : endL (b.drop (i + 1)) with
  | none => rw [quotedV_none hn, quotedV_none (by rw [hd]; exact hn)]; exact .bad _ _ _
  | some n =>
    rw [quotedV_some hn, quotedV_some (by rw [hd]; exact hn), hd]
    split
    · exact .bad _ _ _
    · split
      · exact .bad _ _ _
      · split
        · exact .bad _ _ _
        · exact ⟨rfl, rfl, rfl, rfl⟩
theorem next_shift (c b : List UInt8) (i : Nat) : Alike (nextV (c ++ b) (c.length + i)) (nextV b i) := by
  have hd : (c ++ b).drop (c.length + i) = b.drop i := drop_past c b i
  have hg : (c ++ b).getD (c.length + i) 0 = b.getD i 0 := by rw [List.getD, List.getD, List.getElem?_append_right (by omega), Nat.add_sub_cancel_left]
  unfold nextV
  rw [hd, hg]
  split
  · exact ⟨rfl, rfl, rfl, rfl⟩
  · split
    · exact quoted_shift c b i
    · split
      · exact .bad _ _ _
      · split
        · exact .bad _ _ _
        · exact ⟨rfl, rfl, rfl, rfl⟩
theorem skipAt_shift (c b : List UInt8) (i : Nat) : skipAt (c ++ b) (c.length + i) = c.length + skipAt b i := by
  unfold skipAt
  rw [drop_past]
  omega
/-- the piece between two strings that a number stands for -/
def gapP (n : Nat) : List UInt8 := match n with | 0 => [32] | 1 => [9] | 2 => [13] | 3 => [10] | 4 => [35, 32, 120, 32, 34, 32, 123, 10] | _ => [35, 10]
def gapT (g : List UInt8) : List UInt8 := g.flatMap fun n => gapP (n.toNat % 6)
theorem gapP_skip (n : Nat) (t : List UInt8) : skipS false (gapP n ++ t) = (gapP n).length + skipS false t := by
  unfold gapP
  split <;> simp [skipS, blanksL] <;> omega
theorem gapT_skip (t : List UInt8) : ∀ g : List UInt8, skipS false (gapT g ++ t) = (gapT g).length + skipS false t
  | [] => by show skipS false t = 0 + _; rw [Nat.zero_add]
  | n :: g => by
    rw [show gapT (n :: g) = gapP (n.toNat % 6) ++ gapT g from rfl, List.append_assoc, gapP_skip, gapT_skip t g, List.length_append]
    omega
theorem run_bad {l : List UInt8} {M N : Nat} (h : RunP l M) (h0 : 0 < N) (hN : ∀ k, k < N → posV l k < l.length) (hok : ∀ k, k + 1 < N → (itemV l k).2.2.2 = 0) (hE : (itemV l (N - 1)).2.2.2 ≠ 0) : M = N := by
  rcases Nat.lt_trichotomy M N with h1 | h1 | h1
  · rcases h.2.2 with ⟨h2, _⟩ | ⟨h2, h3⟩
    · have := hN M h1; omega
    · exact absurd (hok (M - 1) (by omega)) h3
  · exact h1
  · exact absurd (h.2.1 (N - 1) (by omega)) hE
section
variable {a b g : List UInt8} {M N K : Nat}
theorem blanks_fst (hr : RunP a M) (hok : ∀ k, k < M → (itemV a k).2.2.2 = 0) : ∀ k, k < M → posV (a ++ 10 :: (gapT g ++ b)) k = posV a k ∧ itemV (a ++ 10 :: (gapT g ++ b)) k = itemV a k
  | 0, h => by
    have h1 := hr.1 0 h
    have h2 : posV (a ++ 10 :: (gapT g ++ b)) 0 = posV a 0 := by
      show skipAt _ 0 = skipAt _ 0
      replace h1 : 0 + skipS false (a.drop 0) < a.length := h1
      rw [List.drop_zero, Nat.zero_add] at h1
      unfold skipAt
      rw [List.drop_zero, List.drop_zero, skip_app, if_pos h1]
    refine ⟨h2, ?_⟩
    unfold itemV
    rw [h2]
    exact next_app h1 (hok 0 h)
  | k + 1, h => by
    obtain ⟨p1, p2⟩ := blanks_fst hr hok k (by omega)
    have h1 := hr.1 (k + 1) h
    have hl := hr.1 k (by omega)
    have h3 := next_len a _ hl
    have h2 : posV (a ++ 10 :: (gapT g ++ b)) (k + 1) = posV a (k + 1) := by
      show skipAt _ (_ + (itemV (a ++ 10 :: (gapT g ++ b)) k).2.1) = skipAt _ (_ + (itemV a k).2.1)
      rw [p1, p2]
      replace h1 : posV a k + (itemV a k).2.1 + skipS false (a.drop (posV a k + (itemV a k).2.1)) < a.length := h1
      replace h3 : posV a k + (itemV a k).2.1 ≤ a.length := h3
      unfold skipAt
      rw [List.drop_append_of_le_length h3, skip_app, if_pos (by rw [List.length_drop]; omega)]
    refine ⟨h2, ?_⟩
    unfold itemV
    rw [h2]
    exact next_app h1 (hok (k + 1) h)
theorem skipAt_end {p : Nat} (hp : p ≤ a.length) (hs : a.length ≤ skipAt a p) : skipAt (a ++ 10 :: (gapT g ++ b)) p = (a ++ 10 :: gapT g).length + skipAt b 0 := by
  unfold skipAt at hs ⊢
  rw [List.drop_append_of_le_length hp, skip_app, if_neg (by rw [List.length_drop]; omega), gapT_skip, List.length_drop, List.length_append, List.length_cons, List.drop_zero]
  omega
theorem blanks_mid (hr : RunP a M) (hok : ∀ k, k < M → (itemV a k).2.2.2 = 0) : posV (a ++ 10 :: (gapT g ++ b)) M = (a ++ 10 :: gapT g).length + posV b 0 := by
  have hE : a.length ≤ posV a M := by
    rcases hr.2.2 with ⟨h, _⟩ | ⟨h1, h2⟩
    · exact h
    · exact absurd (hok (M - 1) (by omega)) h2
  cases M with
  | zero => exact skipAt_end (Nat.zero_le _) hE
  | succ k =>
    obtain ⟨p1, p2⟩ := blanks_fst (g := g) (b := b) hr hok k (by omega)
    have h3 := next_len a _ (hr.1 k (by omega))
    show skipAt _ (_ + (itemV (a ++ 10 :: (gapT g ++ b)) k).2.1) = _
    rw [p1, p2]
    exact skipAt_end h3 hE
theorem split_app : a ++ 10 :: (gapT g ++ b) = (a ++ 10 :: gapT g) ++ b := by rw [List.append_assoc, List.cons_append]
theorem blanks_snd (hr : RunP a M) (hok : ∀ k, k < M → (itemV a k).2.2.2 = 0) : ∀ j, posV (a ++ 10 :: (gapT g ++ b)) (M + j) = (a ++ 10 :: gapT g).length + posV b j ∧ Alike (itemV (a ++ 10 :: (gapT g ++ b)) (M + j)) (itemV b j)
  | 0 => by
    have h2 := blanks_mid (g := g) (b := b) hr hok
    refine ⟨h2, ?_⟩
    unfold itemV
    rw [Nat.add_zero, h2, split_app]
    exact next_shift _ _ _
  | j + 1 => by
    obtain ⟨p1, p2⟩ := blanks_snd hr hok j
    have h2 : posV (a ++ 10 :: (gapT g ++ b)) (M + j + 1) = (a ++ 10 :: gapT g).length + posV b (j + 1) := by
      show skipAt _ (_ + (itemV (a ++ 10 :: (gapT g ++ b)) (M + j)).2.1) = _ + skipAt _ (_ + (itemV b j).2.1)
      rw [p1, p2.2.2.1, split_app, Nat.add_assoc, skipAt_shift]
    refine ⟨h2, ?_⟩
    unfold itemV
    rw [← Nat.add_assoc, h2, split_app]
    exact next_shift _ _ _
theorem blanks_num (hr : RunP a M) (hok : ∀ k, k < M → (itemV a k).2.2.2 = 0) (hb : RunP b N) (hz : RunP (a ++ 10 :: (gapT g ++ b)) K) : K = M + N := by
  have hl : (a ++ 10 :: (gapT g ++ b)).length = (a ++ 10 :: gapT g).length + b.length := by rw [split_app, List.length_append]
  have hpos : ∀ k, k < M + N → posV (a ++ 10 :: (gapT g ++ b)) k < (a ++ 10 :: (gapT g ++ b)).length := fun k hk => by
    rcases Nat.lt_or_ge k M with h | h
    · rw [(blanks_fst hr hok k h).1]
      have := hr.1 k h
      rw [List.length_append]; omega
    · obtain ⟨j, rfl⟩ : ∃ j, k = M + j := ⟨k - M, by omega⟩
      rw [(blanks_snd hr hok j).1, hl]
      have := hb.1 j (by omega)
      omega
  have herr : ∀ k, k < M → (itemV (a ++ 10 :: (gapT g ++ b)) k).2.2.2 = 0 := fun k hk => by rw [(blanks_fst hr hok k hk).2]; exact hok k hk
  rcases hb.2.2 with ⟨h1, h2⟩ | ⟨h1, h2⟩
  · refine run_unique hz (fun k hk => ⟨hpos k hk, ?_⟩) (by rw [(blanks_snd hr hok N).1, hl]; omega)
    rcases Nat.lt_or_ge k M with h | h
    · exact herr k h
    · obtain ⟨j, rfl⟩ : ∃ j, k = M + j := ⟨k - M, by omega⟩
      rw [(blanks_snd hr hok j).2.2.2.2]
      exact h2 j (by omega)
  · refine run_bad hz (by omega) hpos (fun k hk => ?_) (by rw [show M + N - 1 = M + (N - 1) by omega, (blanks_snd hr hok (N - 1)).2.2.2.2]; exact h2)
    rcases Nat.lt_or_ge k M with h | h
    · exact herr k h
    · obtain ⟨j, rfl⟩ : ∃ j, k = M + j := ⟨k - M, by omega⟩
      rw [(blanks_snd hr hok j).2.2.2.2]
      exact hb.2.1 j (by omega)
end
end Go.Proofs.YtpionddponmdmaaDoor
/- Tokens of one row of the call's own behind those of another. -/
namespace Go.Proofs.YtpionddponmdmaaDoor
open Go.RowKit
theorem tkCells_app (xs ys : List Nx) : tkCells (xs ++ ys) = tkCells xs ++ tkCells ys := by simp [tkCells]
theorem tkCells_one (xs : List Nx) : ∀ u ∈ tkCells xs, u.oneCell' = true := by
  intro u hu
  obtain ⟨x, _, hx⟩ := List.mem_flatMap.1 hu
  simp only [List.mem_cons, List.not_mem_nil, or_false] at hx
  rcases hx with rfl | rfl | rfl <;> rfl
theorem run_app_tk {w : World} (ty : TypeId) (base base2 : Nat) (ad : Option Addr) (k c : Nat) (ys : List Value) (hown : w.ownsRow base 50 3 (.slice ad k c) k ys) (ad2 : Option Addr) (n c2 : Nat) (qs : List Nx)
    (hx : w.ownsRow base2 50 3 (.slice ad2 n c2) n (tkCells qs)) (hr : k + n ≤ 1000000) (hb : base ≤ w.heap.size) :
    ∃ ad' c' w', (Builtin.append_ #[27, 27] ty #[.slice ad k c, .slice ad2 n c2]).run Tryd.prog w = .ok (.slice ad' (k + n) c') w' ∧
      w'.ownsRow base 50 3 (.slice ad' (k + n) c') (k + n) (ys ++ tkCells qs) ∧ w.grownBy w' (Value.ownBlock (.slice ad k c)) := by
  obtain ⟨i0, hi, hz0, hz1, hz2⟩ := info_parts infoRt
  have hl0 := hx.1
  obtain ⟨_, ⟨h1, h2⟩ | ⟨g, cap, cur, h1, h2, h3, h4, h5, h6, h7⟩⟩ := hx
  · injection h1 with e1 e2 e3
    subst e1 e2 e3
    have hq : tkCells qs = [] := List.eq_nil_of_length_eq_zero (by rw [hl0])
    refine ⟨ad, c, w, run_append_owned_none w base 27 ty 50 i0 3 Tryd.underlying27 hi (.slice ad k c) k ys hown, by simpa [hq] using hown, World.grownBy.refl _ _⟩
  · injection h1 with e1 e2 e3
    subst e1
    have news : ∀ j u, (tkCells qs)[j]? = some u → w.cell? ((⟨g, 0, none⟩ : Addr).add j) = some u := by
      intro j u hu
      have hj : j < n * 3 := by rw [← hl0]; exact (List.getElem?_eq_some_iff.1 hu).1
      rw [add_flat, Nat.zero_add]
      rw [← h7, List.getElem?_take, if_pos hj] at hu
      simp only [World.cell?, h3]
      rw [Array.getElem?_toList] at hu
      simpa using hu
    obtain ⟨v', w', k1, k2, k3, k4⟩ := run_append_own (P := Tryd.prog) (w := w) base 27 ty 50 i0 _ 3 32 Tryd.underlying27 hi hz0 hz1 hz2 rfl (by omega) (.slice ad k c) k ys hown ⟨g, 0, none⟩ n c2 (tkCells qs)
      hl0 news (tkCells_one qs) (by unfold maxLen; omega) (by omega) hb
    obtain ⟨ad', c', rfl⟩ := own_form_k k2
    exact ⟨ad', c', w', k1, k2, k3⟩
theorem wpList_app_tk {ops : Array Oper} {rest : List Oper} {o : Oper} {a : Act} {w : World} {Q : Exit → Act → World → Prop} (hgd : o.guard = none) (s x : Operand)
    (ho : o.op = .call { callee := .builtin .append, args := #[s, x], argTypes := #[27, 27] })
    (base base2 : Nat) (ad : Option Addr) (k c : Nat) (ys : List Value) (hs : a.eval s = .slice ad k c) (hown : w.ownsRow base 50 3 (.slice ad k c) k ys) (ad2 : Option Addr) (n c2 : Nat) (qs : List Nx)
    (hxe : a.eval x = .slice ad2 n c2) (hx : w.ownsRow base2 50 3 (.slice ad2 n c2) n (tkCells qs)) (hr : k + n ≤ 1000000) (hb : base ≤ w.heap.size)
    (h : ∀ ad' c' w', w'.ownsRow base 50 3 (.slice ad' (k + n) c') (k + n) (ys ++ tkCells qs) → w.grownBy w' (Value.ownBlock (.slice ad k c)) → wpList Tryd.prog ops Q rest (a.put o.dst (.slice ad' (k + n) c')) w') : wpList Tryd.prog ops Q (o :: rest) a w := by
  refine wpList_plain hgd fun _ hK => ?_
  obtain ⟨ad', c', w', h1, h2, h3⟩ := run_app_tk o.type base base2 ad k c ys hown ad2 n c2 qs hx hr hb
  unfold Oper.wp execOp
  simp only [ho, resolve, invoke, builtin, Sem.run_bind, Sem.run_pure, Result.andThen_ok, List.map_toArray, List.map_cons, List.map_nil, hs, hxe, h1]
  exact hK _ _ (h ad' c' w' h2 h3)
/-- .. at an operation with a guard that holds -/
theorem wpList_app_tkG {ops : Array Oper} {rest : List Oper} {o : Oper} {a : Act} {w : World} {Q : Exit → Act → World → Prop} (hw : Region.wanted o (yielded ops a.tmps) = true) (s x : Operand)
    (ho : o.op = .call { callee := .builtin .append, args := #[s, x], argTypes := #[27, 27] })
    (base base2 : Nat) (ad : Option Addr) (k c : Nat) (ys : List Value) (hs : a.eval s = .slice ad k c) (hown : w.ownsRow base 50 3 (.slice ad k c) k ys) (ad2 : Option Addr) (n c2 : Nat) (qs : List Nx)
    (hxe : a.eval x = .slice ad2 n c2) (hx : w.ownsRow base2 50 3 (.slice ad2 n c2) n (tkCells qs)) (hr : k + n ≤ 1000000) (hb : base ≤ w.heap.size)
    (h : ∀ ad' c' w', w'.ownsRow base 50 3 (.slice ad' (k + n) c') (k + n) (ys ++ tkCells qs) → w.grownBy w' (Value.ownBlock (.slice ad k c)) → wpList Tryd.prog ops Q rest (a.put o.dst (.slice ad' (k + n) c')) w') : wpList Tryd.prog ops Q (o :: rest) a w := by
  unfold wpList
  rw [if_pos hw]
  left
  obtain ⟨ad', c', w', h1, h2, h3⟩ := run_app_tk o.type base base2 ad k c ys hown ad2 n c2 qs hx hr hb
  unfold Oper.wp execOp
  simp only [ho, resolve, invoke, builtin, Sem.run_bind, Sem.run_pure, Result.andThen_ok, List.map_toArray, List.map_cons, List.map_nil, hs, hxe, h1]
  exact h ad' c' w' h2 h3
end Go.Proofs.YtpionddponmdmaaDoor
