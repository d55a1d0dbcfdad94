/- Plain: documents in pieces and their layouts. -/
import Derived.Test.YtkkggpahanddnaaDoorK
namespace Go.Proofs.YtkkggpahanddnaaDoor

/-- all pieces of a document -/
def allV (h : ByteArray) (xs : List ByteArray) (t : ByteArray) : List ByteArray := h :: (xs ++ [t])
theorem allV_len (h : ByteArray) (xs : List ByteArray) (t : ByteArray) : (allV h xs t).length = xs.length + 2 := by simp [allV]
theorem allV_0 (h : ByteArray) (xs : List ByteArray) (t : ByteArray) : (allV h xs t).getD 0 .empty = h := rfl
theorem allV_mid (h : ByteArray) (xs : List ByteArray) (t : ByteArray) {i : Nat} (hi : i < xs.length) : (allV h xs t).getD (i + 1) .empty = xs.getD i .empty := by
  simp [allV, List.getD, List.getElem?_append_left hi]
theorem allV_last (h : ByteArray) (xs : List ByteArray) (t : ByteArray) : (allV h xs t).getD (xs.length + 1) .empty = t := by
  simp [allV, List.getD]
theorem allV_inj {h h' : ByteArray} {xs xs' : List ByteArray} {t t' : ByteArray} (e : allV h xs t = allV h' xs' t') : h = h' ∧ xs = xs' ∧ t = t' := by
  unfold allV at e
  injection e with e1 e2
  obtain ⟨e3, e4⟩ := List.append_inj' e2 rfl
  exact ⟨e1, e3, by injection e4⟩
/-- the piece with an index -/
def getV (l : List ByteArray) (i : Int) : ByteArray × Bool := if 0 ≤ i ∧ i < (l.length : Int) then (l.getD i.toNat .empty, true) else (.empty, false)
theorem getV_in {l : List ByteArray} {i : Nat} (h : i < l.length) : getV l (i : Int) = (l.getD i .empty, true) := by
  unfold getV; rw [if_pos (by omega), Int.toNat_natCast]
theorem getV_out {l : List ByteArray} {i : Int} (h : i < 0 ∨ (l.length : Int) ≤ i) : getV l i = (.empty, false) := by
  unfold getV; rw [if_neg (by omega)]
/-- the bytes of all pieces -/
def catV (l : List ByteArray) : List UInt8 := l.flatMap (·.data.toList)
theorem catV_nil : catV [] = [] := rfl
theorem catV_snoc (l : List ByteArray) (x : ByteArray) : catV (l ++ [x]) = catV l ++ x.data.toList := by simp [catV]
theorem catV_app (l m : List ByteArray) : catV (l ++ m) = catV l ++ catV m := by simp [catV]
theorem catV_take_succ (l : List ByteArray) (k : Nat) (h : k < l.length) : catV (l.take (k + 1)) = catV (l.take k) ++ (l.getD k .empty).data.toList := by
  rw [List.take_succ_eq_append_getElem h, catV_snoc]
  simp [List.getD, List.getElem?_eq_getElem h]
theorem catV_le {l : List ByteArray} {m : Nat} (h : ∀ x ∈ l, x.size ≤ m) : (catV l).length ≤ l.length * m := by
  induction l with
  | nil => simp [catV]
  | cons a l ih =>
    have h1 := ih (fun x hx => h x (List.mem_cons_of_mem _ hx))
    have h2 := h a (List.mem_cons_self ..)
    have e : catV (a :: l) = a.data.toList ++ catV l := rfl
    rw [e, List.length_append, ba_len, List.length_cons, Nat.succ_mul]
    omega
/-- the layout of the first k pieces -/
def diffN (a b : List ByteArray) : Nat → List (Int × ByteArray)
  | 0 => []
  | k + 1 => diffN a b k ++ (if a.getD k .empty = b.getD k .empty then [] else [((k : Int), a.getD k .empty)])
def diffV (a b : List ByteArray) : List (Int × ByteArray) := diffN a b a.length
theorem diffN_same {a b : List ByteArray} {k : Nat} (h : a.getD k .empty = b.getD k .empty) : diffN a b (k + 1) = diffN a b k := by rw [diffN, if_pos h, List.append_nil]
theorem diffN_other {a b : List ByteArray} {k : Nat} (h : a.getD k .empty ≠ b.getD k .empty) : diffN a b (k + 1) = diffN a b k ++ [((k : Int), a.getD k .empty)] := by rw [diffN, if_neg h]
theorem diffN_len (a b : List ByteArray) : ∀ k, (diffN a b k).length ≤ k
  | 0 => Nat.le_refl _
  | k + 1 => by
    have := diffN_len a b k
    rw [diffN, List.length_append]
    split <;> simp <;> omega
theorem getD_ext {a b : List ByteArray} (hl : a.length = b.length) (h : ∀ i, i < a.length → a.getD i .empty = b.getD i .empty) : a = b := by
  apply List.ext_getElem hl
  intro i h1 h2
  have := h i h1
  simpa [List.getD, List.getElem?_eq_getElem h1, List.getElem?_eq_getElem h2] using this
theorem diffN_nil {a b : List ByteArray} : ∀ {k : Nat}, diffN a b k = [] → ∀ i, i < k → a.getD i .empty = b.getD i .empty
  | 0, _, i, hi => absurd hi (Nat.not_lt_zero _)
  | k + 1, h, i, hi => by
    rw [diffN] at h
    obtain ⟨h1, h2⟩ := List.append_eq_nil_iff.1 h
    by_cases hk : i = k
    · subst hk
      by_cases e : a.getD i .empty = b.getD i .empty
      · exact e
      · rw [if_neg e] at h2; cases h2
    · exact diffN_nil h1 i (by omega)
theorem diffN_self (a : List ByteArray) : ∀ k, diffN a a k = []
  | 0 => rfl
  | k + 1 => by rw [diffN_same rfl, diffN_self a k]
theorem diffV_nil {a b : List ByteArray} (hl : a.length = b.length) : diffV a b = [] ↔ a = b :=
  ⟨fun h => getD_ext hl (diffN_nil h), fun h => by subst h; exact diffN_self _ _⟩
theorem diffN_mem {a b : List ByteArray} : ∀ {k : Nat} {p : Int × ByteArray}, p ∈ diffN a b k ↔ ∃ i, i < k ∧ p = ((i : Int), a.getD i .empty) ∧ a.getD i .empty ≠ b.getD i .empty
  | 0, p => by simp [diffN]
  | k + 1, p => by
    rw [diffN, List.mem_append, diffN_mem]
    constructor
    · rintro (⟨i, hi, e, hn⟩ | h)
      · exact ⟨i, by omega, e, hn⟩
      · split at h
        · cases h
        · rename_i hn
          exact ⟨k, by omega, List.mem_singleton.1 h, hn⟩
    · rintro ⟨i, hi, e, hn⟩
      by_cases hk : i = k
      · subst hk; exact .inr (by rw [if_neg hn, e]; exact List.mem_singleton.2 rfl)
      · exact .inl ⟨i, by omega, e, hn⟩

/-- a layout is valid at a place -/
def okAt (ps : List (Int × ByteArray)) (n : Int) (i : Nat) : Bool :=
  decide (0 ≤ (ps.getD i (0, .empty)).1) && decide ((ps.getD i (0, .empty)).1 - 1 ≤ n) && (decide (i = 0) || decide ((ps.getD (i - 1) (0, .empty)).1 < (ps.getD i (0, .empty)).1))
def validV (ps : List (Int × ByteArray)) (n : Int) : Bool := (List.range ps.length).all (okAt ps n)
theorem validV_iff {ps : List (Int × ByteArray)} {n : Int} : validV ps n = true ↔ ∀ i, i < ps.length → 0 ≤ (ps.getD i (0, .empty)).1 ∧ (ps.getD i (0, .empty)).1 - 1 ≤ n ∧ (i ≠ 0 → (ps.getD (i - 1) (0, .empty)).1 < (ps.getD i (0, .empty)).1) := by
  unfold validV
  rw [List.all_eq_true]
  constructor
  · intro h i hi
    have := h i (List.mem_range.2 hi)
    unfold okAt at this
    simp only [Bool.and_eq_true, Bool.or_eq_true, decide_eq_true_eq] at this
    exact ⟨this.1.1, this.1.2, fun h0 => this.2.resolve_left h0⟩
  · intro h i hi
    obtain ⟨h1, h2, h3⟩ := h i (List.mem_range.1 hi)
    unfold okAt
    simp only [Bool.and_eq_true, Bool.or_eq_true, decide_eq_true_eq]
    exact ⟨⟨h1, h2⟩, by by_cases h0 : i = 0; exact .inl h0; exact .inr (h3 h0)⟩
theorem validV_no {ps : List (Int × ByteArray)} {n : Int} {i : Nat} (hi : i < ps.length) (h : okAt ps n i = false) : validV ps n = false := by
  unfold validV
  rw [← Bool.not_eq_true, List.all_eq_true]
  intro h1
  have := h1 i (List.mem_range.2 hi)
  rw [h] at this
  cases this
/-- one piece put in -/
def putV (l : List ByteArray) (p : Int × ByteArray) : List ByteArray := l.set p.1.toNat p.2
def applyV (l : List ByteArray) (ps : List (Int × ByteArray)) : List ByteArray := ps.foldl putV l
theorem applyV_len (ps : List (Int × ByteArray)) : ∀ l : List ByteArray, (applyV l ps).length = l.length := by
  induction ps with
  | nil => intro l; rfl
  | cons p ps ih => intro l; show (applyV (putV l p) ps).length = _; rw [ih]; simp [putV]
theorem applyV_take_succ (l : List ByteArray) (ps : List (Int × ByteArray)) (k : Nat) (h : k < ps.length) : applyV l (ps.take (k + 1)) = putV (applyV l (ps.take k)) (ps.getD k (0, .empty)) :=
  foldl_take_succ putV ps l k h (0, .empty)
/-- a document of at least two pieces -/
theorem allV_of {l : List ByteArray} (h : 2 ≤ l.length) : ∃ a xs t, l = allV a xs t ∧ xs.length + 2 = l.length := by
  cases l with
  | nil => simp at h
  | cons a l =>
    have hne : l ≠ [] := fun e => by subst e; simp at h
    refine ⟨a, l.dropLast, l.getLast hne, ?_, ?_⟩
    · unfold allV; rw [List.dropLast_concat_getLast hne]
    · simp at h ⊢; omega
theorem allV_set_0 (a : ByteArray) (xs : List ByteArray) (t s : ByteArray) : (allV a xs t).set 0 s = allV s xs t := rfl
theorem allV_set_mid (a : ByteArray) (xs : List ByteArray) (t s : ByteArray) {i : Nat} (hi : i < xs.length) : (allV a xs t).set (i + 1) s = allV a (xs.set i s) t := by
  simp [allV, hi]
theorem allV_set_last (a : ByteArray) (xs : List ByteArray) (t s : ByteArray) : (allV a xs t).set (xs.length + 1) s = allV a xs s := by
  simp [allV]
end Go.Proofs.YtkkggpahanddnaaDoor
