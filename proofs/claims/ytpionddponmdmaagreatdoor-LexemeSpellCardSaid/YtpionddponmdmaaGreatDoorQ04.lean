/- Plain: documents in pieces and their layouts. -/
import Derived.Test.YtpionddponmdmaaGreatDoorQ00
import Derived.StillTail
namespace Go.Proofs.YtpionddponmdmaaGreatDoor

/-- all pieces of a document -/
def allV (h : ByteArray) (xs : List ByteArray) (t : ByteArray) : List ByteArray := h :: (xs ++ [t])
theorem allV_len (h : ByteArray) (xs : List ByteArray) (t : ByteArray) : (allV h xs t).length = xs.length + 2 := by simp [allV]
theorem allV_0 (h : ByteArray) (xs : List ByteArray) (t : ByteArray) : (allV h xs t).getD 0 .empty = h := rfl
theorem allV_mid (h : ByteArray) (xs : List ByteArray) (t : ByteArray) {i : Nat} (hi : i < xs.length) : (allV h xs t).getD (i + 1) .empty = xs.getD i .empty := by
  simp [allV, List.getD, List.getElem?_append_left hi]
theorem allV_last (h : ByteArray) (xs : List ByteArray) (t : ByteArray) : (allV h xs t).getD (xs.length + 1) .empty = t := by
  simp [allV, List.getD]
theorem allV_inj {h h' : ByteArray} {xs xs' : List ByteArray} {t t' : ByteArray} (e : allV h xs t = allV h' xs' t') : h = h' ∧ xs = xs' ∧ t = t' := by
  unfold allV at e
  injection e with e1 e2
  obtain ⟨e3, e4⟩ := List.append_inj' e2 rfl
  exact ⟨e1, e3, by injection e4⟩
/-- the piece with an index -/
def getV (l : List ByteArray) (i : Int) : ByteArray × Bool := if 0 ≤ i ∧ i < (l.length : Int) then (l.getD i.toNat .empty, true) else (.empty, false)
theorem getV_in {l : List ByteArray} {i : Nat} (h : i < l.length) : getV l (i : Int) = (l.getD i .empty, true) := by
  unfold getV; rw [if_pos (by omega), Int.toNat_natCast]
theorem getV_out {l : List ByteArray} {i : Int} (h : i < 0 ∨ (l.length : Int) ≤ i) : getV l i = (.empty, false) := by
  unfold getV; rw [if_neg (by omega)]
/-- the bytes of all pieces -/
def catV (l : List ByteArray) : List UInt8 := l.flatMap (·.data.toList)
theorem catV_nil : catV [] = [] := rfl
theorem catV_snoc (l : List ByteArray) (x : ByteArray) : catV (l ++ [x]) = catV l ++ x.data.toList := by simp [catV]
theorem catV_app (l m : List ByteArray) : catV (l ++ m) = catV l ++ catV m := by simp [catV]
theorem catV_take_succ (l : List ByteArray) (k : Nat) (h : k < l.length) : catV (l.take (k + 1)) = catV (l.take k) ++ (l.getD k .empty).data.toList := by
  rw [List.take_succ_eq_append_getElem h, catV_snoc]
  simp [List.getD, List.getElem?_eq_getElem h]
theorem catV_le {l : List ByteArray} {m : Nat} (h : ∀ x ∈ l, x.size ≤ m) : (catV l).length ≤ l.length * m := by
  induction l with
  | nil => simp [catV]
  | cons a l ih =>
    have h1 := ih (fun x hx => h x (List.mem_cons_of_mem _ hx))
    have h2 := h a (List.mem_cons_self ..)
    have e : catV (a :: l) = a.data.toList ++ catV l := rfl
    rw [e, List.length_append, ba_len, List.length_cons, Nat.succ_mul]
    omega
/-- the layout of the first k pieces -/
def diffN (a b : List ByteArray) : Nat → List (Int × ByteArray)
  | 0 => []
  | k + 1 => diffN a b k ++ (if a.getD k .empty = b.getD k .empty then [] else [((k : Int), a.getD k .empty)])
def diffV (a b : List ByteArray) : List (Int × ByteArray) := diffN a b a.length
theorem diffN_same {a b : List ByteArray} {k : Nat} (h : a.getD k .empty = b.getD k .empty) : diffN a b (k + 1) = diffN a b k := by rw [diffN, if_pos h, List.append_nil]
theorem diffN_other {a b : List ByteArray} {k : Nat} (h : a.getD k .empty ≠ b.getD k .empty) : diffN a b (k + 1) = diffN a b k ++ [((k : Int), a.getD k .empty)] := by rw [diffN, if_neg h]
theorem diffN_len (a b : List ByteArray) : ∀ k, (diffN a b k).length ≤ k
  | 0 => Nat.le_refl _
  | k + 1 => by
    have := diffN_len a b k
    rw [diffN, List.length_append]
    split <;> simp <;> omega
theorem getD_ext {a b : List ByteArray} (hl : a.length = b.length) (h : ∀ i, i < a.length → a.getD i .empty = b.getD i .empty) : a = b := by
  apply List.ext_getElem hl
  intro i h1 h2
  have := h i h1
  simpa [List.getD, List.getElem?_eq_getElem h1, List.getElem?_eq_getElem h2] using this
theorem diffN_nil {a b : List ByteArray} : ∀ {k : Nat}, diffN a b k = [] → ∀ i, i < k → a.getD i .empty = b.getD i .empty
  | 0, _, i, hi => absurd hi (Nat.not_lt_zero _)
  | k + 1, h, i, hi => by
    rw [diffN] at h
    obtain ⟨h1, h2⟩ := List.append_eq_nil_iff.1 h
    by_cases hk : i = k
    · subst hk
      by_cases e : a.getD i .empty = b.getD i .empty
      · exact e
      · rw [if_neg e] at h2; cases h2
    · exact diffN_nil h1 i (by omega)
theorem diffN_self (a : List ByteArray) : ∀ k, diffN a a k = []
  | 0 => rfl
  | k + 1 => by rw [diffN_same rfl, diffN_self a k]
theorem diffV_nil {a b : List ByteArray} (hl : a.length = b.length) : diffV a b = [] ↔ a = b :=
  ⟨fun h => getD_ext hl (diffN_nil h), fun h => by subst h; exact diffN_self _ _⟩
theorem diffN_mem {a b : List ByteArray} : ∀ {k : Nat} {p : Int × ByteArray}, p ∈ diffN a b k ↔ ∃ i, i < k ∧ p = ((i : Int), a.getD i .empty) ∧ a.getD i .empty ≠ b.getD i .empty
  | 0, p => by simp [diffN]
  | k + 1, p => by
    rw [diffN, List.mem_append, diffN_mem]
    constructor
    · rintro (⟨i, hi, e, hn⟩ | h)
      · exact ⟨i, by omega, e, hn⟩
      · split at h
        · cases h
        · rename_i hn
          exact ⟨k, by omega, List.mem_singleton.1 h, hn⟩
    · rintro ⟨i, hi, e, hn⟩
      by_cases hk : i = k
      · subst hk; exact .inr (by rw [if_neg hn, e]; exact List.mem_singleton.2 rfl)
      · exact .inl ⟨i, by omega, e, hn⟩

/-- a layout is valid at a place -/
def okAt (ps : List (Int × ByteArray)) (n : Int) (i : Nat) : Bool :=
  decide (0 ≤ (ps.getD i (0, .empty)).1) && decide ((ps.getD i (0, .empty)).1 - 1 ≤ n) && (decide (i = 0) || decide ((ps.getD (i - 1) (0, .empty)).1 < (ps.getD i (0, .empty)).1))
def validV (ps : List (Int × ByteArray)) (n : Int) : Bool := (List.range ps.length).all (okAt ps n)
theorem validV_iff {ps : List (Int × ByteArray)} {n : Int} : validV ps n = true ↔ ∀ i, i < ps.length → 0 ≤ (ps.getD i (0, .empty)).1 ∧ (ps.getD i (0, .empty)).1 - 1 ≤ n ∧ (i ≠ 0 → (ps.getD (i - 1) (0, .empty)).1 < (ps.getD i (0, .empty)).1) := by
  unfold validV
  rw [List.all_eq_true]
  constructor
  · intro h i hi
    have := h i (List.mem_range.2 hi)
    unfold okAt at this
    simp only [Bool.and_eq_true, Bool.or_eq_true, decide_eq_true_eq] at this
    exact ⟨this.1.1, this.1.2, fun h0 => this.2.resolve_left h0⟩
  · intro h i hi
    obtain ⟨h1, h2, h3⟩ := h i (List.mem_range.1 hi)
    unfold okAt
    simp only [Bool.and_eq_true, Bool.or_eq_true, decide_eq_true_eq]
    exact ⟨⟨h1, h2⟩, by by_cases h0 : i = 0; exact .inl h0; exact .inr (h3 h0)⟩
theorem validV_no {ps : List (Int × ByteArray)} {n : Int} {i : Nat} (hi : i < ps.length) (h : okAt ps n i = false) : validV ps n = false := by
  unfold validV
  rw [← Bool.not_eq_true, List.all_eq_true]
  intro h1
  have := h1 i (List.mem_range.2 hi)
  rw [h] at this
  cases this
/-- one piece put in -/
def putV (l : List ByteArray) (p : Int × ByteArray) : List ByteArray := l.set p.1.toNat p.2
def applyV (l : List ByteArray) (ps : List (Int × ByteArray)) : List ByteArray := ps.foldl putV l
theorem applyV_len (ps : List (Int × ByteArray)) : ∀ l : List ByteArray, (applyV l ps).length = l.length := by
  induction ps with
  | nil => intro l; rfl
  | cons p ps ih => intro l; show (applyV (putV l p) ps).length = _; rw [ih]; simp [putV]
theorem applyV_take_succ (l : List ByteArray) (ps : List (Int × ByteArray)) (k : Nat) (h : k < ps.length) : applyV l (ps.take (k + 1)) = putV (applyV l (ps.take k)) (ps.getD k (0, .empty)) :=
  foldl_take_succ putV ps l k h (0, .empty)
/-- a document of at least two pieces -/
theorem allV_of {l : List ByteArray} (h : 2 ≤ l.length) : ∃ a xs t, l = allV a xs t ∧ xs.length + 2 = l.length := by
  cases l with
  | nil => simp at h
  | cons a l =>
    have hne : l ≠ [] := fun e => by subst e; simp at h
    refine ⟨a, l.dropLast, l.getLast hne, ?_, ?_⟩
    · unfold allV; rw [List.dropLast_concat_getLast hne]
    · simp at h ⊢; omega
theorem allV_set_0 (a : ByteArray) (xs : List ByteArray) (t s : ByteArray) : (allV a xs t).set 0 s = allV s xs t := rfl
theorem allV_set_mid (a : ByteArray) (xs : List ByteArray) (t s : ByteArray) {i : Nat} (hi : i < xs.length) : (allV a xs t).set (i + 1) s = allV a (xs.set i s) t := by
  simp [allV, hi]
theorem allV_set_last (a : ByteArray) (xs : List ByteArray) (t s : ByteArray) : (allV a xs t).set (xs.length + 1) s = allV a xs s := by
  simp [allV]
end Go.Proofs.YtpionddponmdmaaGreatDoor
/- A region that draws its order: first reads and calls that make memory at most, then a chain of any operations: one walk, in the order of the text. -/
namespace Go.Proofs.YtpionddponmdmaaGreatDoor
open Go.RowKit

section
variable {P : Program} {ops : Array Oper} {md : Region.Mode} {C : World → Prop}

def wpAnyLQ (P : Program) (md : Region.Mode) (ops : Array Oper) (C : World → Prop) (n : Nat) (L : Array Bool → Act → Prop) : Nat → Array Bool → Act → Prop
  | 0, listed, a => L listed a
  | f + 1, listed, a =>
    Region.ready md ops listed ≠ [] ∧ ∀ i ∈ Region.ready md ops listed, i < n ∧ qOp P ops C i (wpAnyLQ P md ops C n L f (listed.setIfInBounds i true)) a

theorem wpAny_of_headQ {n g : Nat} {L : Array Bool → Act → Prop} {Q' : Exit → Act → World → Prop} (hL : ∀ listed a w, C w → L listed a → wpAny P md ops Q' g listed a w) :
    ∀ (f : Nat) (listed : Array Bool) (a : Act) (w : World), C w → wpAnyLQ P md ops C n L f listed a → wpAny P md ops Q' (f + g) listed a w
  | 0, listed, a, w, hC, h => by rw [Nat.zero_add]; exact hL _ _ _ hC h
  | f + 1, listed, a, w, hC, h => by
    rw [show f + 1 + g = (f + g) + 1 by omega]
    exact ⟨fun h0 => absurd h0 h.1, fun i hi => wpOp_of_qOp hC (fun a' w' hC' h' => wpAny_of_headQ hL f _ a' w' hC' h') (h.2 i hi).2⟩

theorem wpAnyLQ_first {n i : Nat} {oi : Oper} {v : Value} {L : Array Bool → Act → Prop} (hi : ops[i]? = some oi) (hsel : ∀ (j : Nat) (o : Oper) cs b, ops[j]? = some o → o.op ≠ .select cs b)
    (hs : Region.sinkB md ops n = true) (hc : Region.chainB md ops n = true) (hn : n < ops.size) (hin : i < n)
    (hdone : ∀ listed a, L listed a → ∀ j ∈ Region.ready md ops listed, n ≤ j) :
    ∀ (f : Nat) (listed : Array Bool) (a : Act), HeadInv md ops n listed →
      (∀ j oj, ops[j]? = some oj → j ≠ i → listed.getD j true = false → (∀ e ∈ oj.after, Region.binds md e = true → e.on ≠ i) → oi.apart ops oj = true) →
      i ∈ Region.ready md ops listed → YieldsIn P ops C oi v a →
      wpAnyLQ P md ops C n L f (listed.setIfInBounds i true) (a.put oi.dst v) → wpAnyLQ P md ops C n L (f + 1) listed a := by
  intro f
  induction f with
  | zero =>
    intro listed a inv _ hr hy H
    have hun := (mem_ready.1 hr).1
    refine ⟨fun h => (by rw [h] at hr; cases hr), fun j hj => ?_⟩
    have hjn : j < n := by
      rcases Nat.lt_or_ge j n with h | h
      · exact h
      · exact absurd hj (tail_waits hs hc hn inv _ i rfl hin hun j h)
    refine ⟨hjn, ?_⟩
    by_cases hji : j = i
    · subst hji; exact hy.qOp hi H
    · have := hdone _ _ H j (ready_mono hj hji)
      omega
  | succ f ih =>
    intro listed a inv hfree hr hy H
    have hun := (mem_ready.1 hr).1
    refine ⟨fun h => (by rw [h] at hr; cases hr), fun j hj => ?_⟩
    have hjn : j < n := by
      rcases Nat.lt_or_ge j n with h | h
      · exact h
      · exact absurd hj (tail_waits hs hc hn inv _ i rfl hin hun j h)
    refine ⟨hjn, ?_⟩
    by_cases hji : j = i
    · subst hji; exact hy.qOp hi H
    · have h1 := (H.2 j (ready_mono hj hji)).2
      obtain ⟨hjun, oj, hoj, hall⟩ := mem_ready.1 hj
      have hnot : ∀ e ∈ oj.after, Region.binds md e = true → e.on ≠ i := fun e he hb heq => by
        have h1 := hall e he hb
        rw [heq, getD_both hun] at h1
        cases h1
      have h2 := qOp_put hoj (hfree j oj hoj hji hjun hnot) (fun cs b => hsel i oi cs b hi) (fun cs b => hsel j oj cs b hoj) hy h1
      have hfree' : ∀ k ok, ops[k]? = some ok → k ≠ i → (listed.setIfInBounds j true).getD k true = false →
          (∀ e ∈ ok.after, Region.binds md e = true → e.on ≠ i) → oi.apart ops ok = true := fun k ok hk hki hun hno => by
        refine hfree k ok hk hki ?_ hno
        by_cases hjk : j = k
        · subst hjk; exact hjun
        · rw [getD_set_ne true hjk] at hun; exact hun
      refine qOp_mono (fun a' h3 => ih (listed.setIfInBounds j true) a' (inv.set hj hjn) hfree' (ready_mono hr (Ne.symm hji)) h3.1 ?_) h2
      rw [Array.setIfInBounds_comm _ _ hji]
      exact h3.2

theorem seqB_readyQ {g k : Nat} {listed : Array Bool} (h : Region.seqB md ops g k listed = true) : ∀ j ∈ Region.ready md ops listed, k ≤ j := seqB_ready h

theorem wpAnyLQ_lex {n g : Nat} {Lq : Act → Prop} (hsel : Region.noSelect ops = true) (hs : Region.sinkB md ops n = true) (hc : Region.chainB md ops n = true) (hn : n < ops.size) :
    ∀ (l : List Oper) (k : Nat) (listed : Array Bool) (a : Act), (∀ j, j < l.length → l[j]? = ops[k + j]?) → k + l.length = n → HeadInv md ops n listed →
    Region.lexHead md ops g l.length k listed = true → wpQuiet P ops C Lq l a →
    wpAnyLQ P md ops C n (fun listed' a' => Region.seqB md ops g n listed' = true ∧ Lq a') l.length listed a
  | [], k, listed, a, _, hk, _, hB, h => by
    have : k = n := by simpa using hk
    subst this
    exact ⟨by simpa [Region.lexHead] using hB, h⟩
  | o :: l, k, listed, a, hl, hk, inv, hB, h => by
    have h0 : ops[k]? = some o := by simpa using (hl 0 (by simp)).symm
    simp only [List.length_cons, Region.lexHead, Bool.and_eq_true] at hB
    obtain ⟨⟨hr, hf⟩, hB'⟩ := hB
    have hkn : k < n := by simp only [List.length_cons] at hk; omega
    have hr' : k ∈ Region.ready md ops listed := by simpa using hr
    have hst : qOp P ops C k (wpQuiet P ops C Lq l) a := by unfold qOp; simp only [h0]; exact h
    obtain ⟨v, hy, hK⟩ := yieldsIn_of_qOp h0 hst
    exact wpAnyLQ_first h0 (Region.noSelect_spec hsel) hs hc hn hkn (fun listed' a' hL => seqB_ready hL.1) l.length listed a inv (Region.free_spec h0 hf) hr' hy
      (wpAnyLQ_lex hsel hs hc hn l (k + 1) _ _ (fun j hj => by have := hl (j + 1) (by simp; omega); simpa [Nat.add_assoc, Nat.add_comm 1 j] using this) (by simp only [List.length_cons] at hk; omega) (inv.set hr' hkn) hB' hK)

theorem wp_region_quiet_tail {id : Nat} {Q : Exit → Act → World → Prop} {a : Act} {w : World} {l : List Oper} (n : Nat) (hm : P.follows .mixedOrders = true) (hB : Region.lexTailB .any l.toArray n = true) (hC : C { w with drawn := w.drawn + 1 })
    (h : wpQuiet P l.toArray C (fun a' => ∀ w', C w' → wpList P l.toArray Q (l.drop n) a' w') (l.take n) a) : (Code.region id l.toArray true).wp P Q a w := by
  simp only [Region.lexTailB, Bool.and_eq_true, decide_eq_true_eq] at hB
  obtain ⟨⟨⟨⟨hsel, hn⟩, hs⟩, hc⟩, hlex⟩ := hB
  have hn' : n < l.length := by simpa using hn
  have htl : (l.take n).length = n := by simp; omega
  have hdl : (l.drop n).length = l.toArray.size - n := by simp
  have inv0 : HeadInv .any l.toArray n (Array.replicate l.toArray.size false) :=
    ⟨by simp, fun j oj _ hl => (by rw [getD_replicate_false] at hl; cases hl), fun t _ ht => getD_in (by simpa using ht) (getD_replicate_false _ _)⟩
  have H := wpAnyLQ_lex (C := C) (md := .any) (g := l.toArray.size - n) hsel hs hc hn (l.take n) 0 _ a (fun j hj => by
    have hj' : j < n := by rw [htl] at hj; exact hj
    simp [hj']) (by simpa using htl) inv0 (by rw [htl]; exact hlex) h
  refine wp_region_any hm ?_
  have := wpAny_of_headQ (Q' := Q) (g := l.toArray.size - n) (fun listed a' w' hCw hL => by
    have := wpAny_of_seq (md := .any) (Q' := Q) (l.drop n) n listed a' w' (fun j => by simp [List.getElem?_drop]) (by rw [hdl]; exact hL.1) (hL.2 w' hCw)
    rwa [hdl] at this) _ _ _ _ hC H
  rw [htl, show n + (l.toArray.size - n) = l.toArray.size by omega] at this
  exact this

/-- the same, where the calls make memory at most -/
theorem wp_region_ext_tail {id : Nat} {Q : Exit → Act → World → Prop} {a : Act} {w : World} {l : List Oper} (n : Nat) (hm : P.follows .mixedOrders = true) (hB : Region.lexTailB .any l.toArray n = true)
    (h : wpQuiet P l.toArray (fun w' => ∃ e : Ext w, w' = e.1) (fun a' => ∀ w', (∃ e : Ext w, w' = e.1) → wpList P l.toArray Q (l.drop n) a' w') (l.take n) a) : (Code.region id l.toArray true).wp P Q a w :=
  wp_region_quiet_tail (C := fun w' => ∃ e : Ext w, w' = e.1) n hm hB ⟨⟨_, (Below.refl _ w).drew⟩, rfl⟩ h
end
end Go.Proofs.YtpionddponmdmaaGreatDoor
