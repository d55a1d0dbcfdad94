/- Plain: the words of a text; their key. -/
import Derived.Test.YtkodnagneblgaaaK
import Derived.Lib.Join
namespace Go.Proofs.Ytkodnagneblgaaa
open Go.RowKit
def lowC (c : UInt8) : UInt8 := if 65 ≤ c.toNat ∧ c.toNat ≤ 90 then UInt8.ofNat (c.toNat + 32) else c
def partC (c : UInt8) : Bool := decide ((65 ≤ c.toNat ∧ c.toNat ≤ 90) ∨ (97 ≤ c.toNat ∧ c.toNat ≤ 122) ∨ (48 ≤ c.toNat ∧ c.toNat ≤ 57) ∨ 128 ≤ c.toNat)
def endW (cur : List UInt8) : List (List UInt8) := if cur = [] then [] else [cur]
def wordsG : List UInt8 → List UInt8 → List (List UInt8)
  | [], cur => endW cur
  | c :: r, cur => if partC c then wordsG r (cur ++ [lowC c]) else endW cur ++ wordsG r []
def wordsV (s : List UInt8) : List (List UInt8) := wordsG s []
theorem wordsG_part {s : List UInt8} {i : Nat} (h : i < s.length) (cur : List UInt8) (hp : partC (s.getD i 0) = true) : wordsG (s.drop i) cur = wordsG (s.drop (i + 1)) (cur ++ [lowC (s.getD i 0)]) := by
  have hd : s.drop i = s.getD i 0 :: s.drop (i + 1) := by rw [List.drop_eq_getElem_cons h]; simp [List.getD, List.getElem?_eq_getElem h]
  rw [hd, wordsG, if_pos hp]
theorem wordsG_gap {s : List UInt8} {i : Nat} (h : i < s.length) (cur : List UInt8) (hp : partC (s.getD i 0) = false) : wordsG (s.drop i) cur = endW cur ++ wordsG (s.drop (i + 1)) [] := by
  have hd : s.drop i = s.getD i 0 :: s.drop (i + 1) := by rw [List.drop_eq_getElem_cons h]; simp [List.getD, List.getElem?_eq_getElem h]
  rw [hd, wordsG, if_neg (by rw [hp]; simp)]
theorem lowC_ok (c : UInt8) (h : partC c = true) : lowC c ≠ 32 := by
  have k : ∀ n : Fin 256, partC (UInt8.ofNat n.val) = true → lowC (UInt8.ofNat n.val) ≠ 32 := by decide +kernel
  have := k ⟨c.toNat, c.toNat_lt⟩
  simp only [UInt8.ofNat_toNat] at this
  exact this h
/-- a word: not empty, without blanks -/
def WordOk (w : List UInt8) : Prop := w ≠ [] ∧ ∀ c ∈ w, c ≠ 32
theorem wordsG_ok : ∀ (s cur : List UInt8), (∀ c ∈ cur, c ≠ 32) → ∀ w ∈ wordsG s cur, WordOk w
  | [], cur, hc, w, hw => by
    unfold wordsG endW at hw
    split at hw
    · cases hw
    · rename_i h
      rw [List.mem_singleton.1 hw]
      exact ⟨h, hc⟩
  | c :: r, cur, hc, w, hw => by
    unfold wordsG at hw
    split at hw
    · rename_i h
      exact wordsG_ok r _ (fun d hd => by
        rcases List.mem_append.1 hd with h1 | h1
        · exact hc d h1
        · rw [List.mem_singleton.1 h1]; exact lowC_ok c h) w hw
    · rcases List.mem_append.1 hw with h1 | h1
      · unfold endW at h1
        split at h1
        · cases h1
        · rename_i h
          rw [List.mem_singleton.1 h1]
          exact ⟨h, hc⟩
      · exact wordsG_ok r [] (fun d hd => (by cases hd)) w h1
theorem wordsV_ok (s : List UInt8) : ∀ w ∈ wordsV s, WordOk w := wordsG_ok s [] (fun d hd => (by cases hd))
/-- the words together are no longer than the text -/
def lenSum (l : List (List UInt8)) : Nat := (l.map fun w => w.length + 1).sum
theorem lenSum_app (a b : List (List UInt8)) : lenSum (a ++ b) = lenSum a + lenSum b := by simp [lenSum]
theorem endW_sum (cur : List UInt8) : lenSum (endW cur) ≤ cur.length + 1 := by
  unfold endW
  split
  · simp [lenSum]
  · simp [lenSum]
theorem wordsG_sum : ∀ (s cur : List UInt8), lenSum (wordsG s cur) ≤ s.length + cur.length + 1
  | [], cur => by have := endW_sum cur; unfold wordsG; simp; omega
  | c :: r, cur => by
    unfold wordsG
    split
    · have := wordsG_sum r (cur ++ [lowC c])
      simp at this ⊢
      omega
    · rw [lenSum_app]
      have h1 := endW_sum cur
      have h2 := wordsG_sum r []
      simp at h2 ⊢
      by_cases h : cur = []
      · subst h
        have : lenSum (endW []) = 0 := rfl
        simp
        omega
      · omega
theorem wordsV_sum (s : List UInt8) : lenSum (wordsV s) ≤ s.length + 1 := wordsG_sum s []
theorem lenSum_len : ∀ l : List (List UInt8), l.length ≤ lenSum l
  | [] => Nat.le_refl _
  | w :: l => by
    have := lenSum_len l
    simp [lenSum] at this ⊢
    omega
theorem lenSum_mem : ∀ (l : List (List UInt8)) (w : List UInt8), w ∈ l → w.length + 1 ≤ lenSum l
  | v :: l, w, h => by
    rcases List.mem_cons.1 h with h | h
    · subst h; simp [lenSum]
    · have := lenSum_mem l w h
      simp [lenSum] at this ⊢
      omega
theorem wordsV_len (s : List UInt8) : (wordsV s).length ≤ s.length + 1 := Nat.le_trans (lenSum_len _) (wordsV_sum s)
theorem wordsV_word (s w : List UInt8) (h : w ∈ wordsV s) : w.length ≤ s.length := by have := lenSum_mem _ _ h; have := wordsV_sum s; omega
/-- the words of a text as one string -/
def keyV (s : List UInt8) : List UInt8 := Lib.join (wordsV s) [32]
theorem join_two (a b : List UInt8) (l : List (List UInt8)) : Lib.join (a :: b :: l) [32] = a ++ 32 :: Lib.join (b :: l) [32] := by simp [Lib.join, List.intercalate]
theorem join_one (a : List UInt8) : Lib.join [a] [32] = a := by simp [Lib.join, List.intercalate]
theorem join_sum : ∀ l : List (List UInt8), (Lib.join l [32]).length ≤ lenSum l
  | [] => Nat.zero_le _
  | [a] => by rw [join_one]; simp [lenSum]
  | a :: b :: l => by
    have := join_sum (b :: l)
    rw [join_two, List.length_append, List.length_cons]
    simp [lenSum] at this ⊢
    omega
theorem keyV_len (s : List UInt8) : (keyV s).length ≤ s.length + 1 := Nat.le_trans (join_sum _) (wordsV_sum s)
theorem split_inj : ∀ {a b x y : List UInt8}, (∀ c ∈ a, c ≠ 32) → (∀ c ∈ b, c ≠ 32) → a ++ 32 :: x = b ++ 32 :: y → a = b ∧ x = y
  | [], [], x, y, _, _, h => by injection h with _ h; exact ⟨rfl, h⟩
  | [], c :: b, x, y, _, hb, h => by injection h with h _; exact absurd h.symm (hb c (List.mem_cons_self ..))
  | c :: a, [], x, y, ha, _, h => by injection h with h _; exact absurd h (ha c (List.mem_cons_self ..))
  | c :: a, d :: b, x, y, ha, hb, h => by
    injection h with h1 h2
    obtain ⟨r1, r2⟩ := split_inj (fun e he => ha e (List.mem_cons_of_mem _ he)) (fun e he => hb e (List.mem_cons_of_mem _ he)) h2
    exact ⟨by rw [h1, r1], r2⟩
theorem no_split {a b x : List UInt8} (ha : ∀ c ∈ a, c ≠ 32) (h : a = b ++ 32 :: x) : False :=
  ha 32 (by rw [h]; simp) rfl
theorem join_inj : ∀ {l m : List (List UInt8)}, (∀ w ∈ l, WordOk w) → (∀ w ∈ m, WordOk w) → Lib.join l [32] = Lib.join m [32] → l = m
  | [], [], _, _, _ => rfl
  | [], [b], _, hm, h => by rw [join_one] at h; exact absurd h.symm (hm b (List.mem_cons_self ..)).1
  | [], b :: b2 :: m, _, _, h => by rw [join_two] at h; have := congrArg List.length h; simp [Lib.join] at this
  | [a], [], hl, _, h => by rw [join_one] at h; exact absurd h (hl a (List.mem_cons_self ..)).1
  | a :: a2 :: l, [], _, _, h => by rw [join_two] at h; have := congrArg List.length h; simp [Lib.join] at this
  | [a], [b], _, _, h => by rw [join_one, join_one] at h; rw [h]
  | [a], b :: b2 :: m, hl, _, h => by rw [join_one, join_two] at h; exact (no_split (hl a (List.mem_cons_self ..)).2 h).elim
  | a :: a2 :: l, [b], _, hm, h => by rw [join_one, join_two] at h; exact (no_split (hm b (List.mem_cons_self ..)).2 h.symm).elim
  | a :: a2 :: l, b :: b2 :: m, hl, hm, h => by
    rw [join_two, join_two] at h
    obtain ⟨h1, h2⟩ := split_inj (hl a (List.mem_cons_self ..)).2 (hm b (List.mem_cons_self ..)).2 h
    rw [h1, join_inj (fun w hw => hl w (List.mem_cons_of_mem _ hw)) (fun w hw => hm w (List.mem_cons_of_mem _ hw)) h2]
theorem keyV_inj {s t : List UInt8} : keyV s = keyV t ↔ wordsV s = wordsV t := ⟨fun h => join_inj (wordsV_ok s) (wordsV_ok t) h, fun h => by unfold keyV; rw [h]⟩
end Go.Proofs.Ytkodnagneblgaaa
