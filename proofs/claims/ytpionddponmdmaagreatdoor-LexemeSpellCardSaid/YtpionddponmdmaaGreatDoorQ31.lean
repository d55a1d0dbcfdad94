/- Walks inside a fence: the program's Body. -/
import Derived.Test.YtpionddponmdmaaGreatDoorQ12
namespace Go.Proofs.YtpionddponmdmaaGreatDoor
open Go.RowKit Go.Shelf
attribute [local go_sem] Oper.semAt_some

/-- a piece of at most 2000 bytes -/
abbrev Short := { x : Nat × ByteArray // x.2.size ≤ 2000 }
noncomputable def shortF (l : List ByteArray) (h : ∀ s ∈ l, s.size ≤ 2000) (j : Nat) : Short := ⟨pieceF l j, by
  unfold pieceF
  rcases Nat.lt_or_ge j l.length with hj | hj
  · exact h _ (getD_mem l j _ hj)
  · rw [List.getD_eq_getElem?_getD, List.getElem?_eq_none hj]; exact Nat.zero_le _⟩
theorem short_cat (l : List ByteArray) (h : ∀ s ∈ l, s.size ≤ 2000) : ∀ k, k ≤ l.length → (upto (shortF l h) k).map (fun x : Short => x.1.2) = l.take k
  | 0, _ => by simp [upto]
  | k + 1, hk => by
    rw [upto_succ, List.map_append, short_cat l h k (by omega), List.take_succ_eq_append_getElem (by omega)]
    simp [shortF, pieceF, List.getD, List.getElem?_eq_getElem (show k < l.length by omega)]
theorem builder_own {β : Type} (B b : Nat) (f : β → List Value) : Own (fun s W => Lib.IsBuilder 61 5 B b (f s) W) := by
  rintro s X Y row h hg hr
  have key : ∀ p, Lib.BuilderAt 61 5 B b p (f s) X → Lib.BuilderAt 61 5 B b p (f s) Y := by
    rintro p ⟨hB, v, hb, hown, hne⟩
    refine ⟨hB, v, (hg.block b (Array.getElem?_eq_some_iff.1 hb).1 (fun e => ?_)).trans hb, hown.kept hg ?_, hne⟩
    · obtain ⟨o, ho, hc⟩ := hr b e.symm
      rw [hb] at ho; cases ho; cases hc
    · rcases hown.2 with ⟨rfl, _⟩ | ⟨g, cap, cur, rfl, _, hgb, _⟩
      · exact .inl rfl
      · refine .inr fun e' => ?_
        obtain ⟨o, ho, hc⟩ := hr g (by simpa [Value.ownBlock] using e'.symm)
        rw [hgb] at ho; cases ho; cases hc
  exact h.elim (fun h => .inl (key _ h)) (fun h => .inr (key _ h))
theorem ownFrom_keepS {β : Type} {S : Nat → Prop} {V : World} {B : Nat} (hS : ∀ k, S k → k < B) (hV : ∀ k, S k → k < V.heap.size) : OwnFrom B (fun (_ : β) W => V.heap.size ≤ W.heap.size ∧ KeepS S V W) :=
  fun _ X Y row hs hg hr => ⟨Nat.le_trans hs.1 hg.size, fun k hk => (hg.block k (Nat.lt_of_lt_of_le (hV k hk) hs.1) (fun e => by have := (hr k e.symm).1; have := hS k hk; omega)).trans (hs.2 k hk)⟩
end Go.Proofs.YtpionddponmdmaaGreatDoor
/- Walks inside a fence: the program's Diff. -/
namespace Go.Proofs.YtpionddponmdmaaGreatDoor
open Go.RowKit Go.Shelf
attribute [local go_sem] Oper.semAt_some

/-- .. and one more -/
def SDoc2 (Bd b m e : Nat) (k : Nat) : Prop := SDoc Bd b m k ∨ k = e
theorem SDoc2.lt {Bd b m e B : Nat} (h1 : Bd < B) (h2 : m ≠ 0 → b < B) (h3 : e < B) : ∀ k, SDoc2 Bd b m e k → k < B := fun k h => h.elim (SDoc.lt h1 h2 k) (fun h => by subst h; exact h3)
def stepD (m : List ByteArray) (x : Nat × ByteArray) : List (Int × ByteArray) := if (getV m (x.1 : Int)).1 = x.2 then [] else [((x.1 : Int), x.2)]
def diffP (m : List ByteArray) (pre : List (Nat × ByteArray)) : List (Int × ByteArray) := pre.flatMap (stepD m)
theorem diffP_snoc (m : List ByteArray) (pre : List (Nat × ByteArray)) (x : Nat × ByteArray) : diffP m (pre ++ [x]) = diffP m pre ++ stepD m x := by simp [diffP]
theorem diffP_len (m : List ByteArray) (pre : List (Nat × ByteArray)) : (diffP m pre).length ≤ pre.length := by
  induction pre with
  | nil => exact Nat.le_refl _
  | cons x pre ih =>
    have : diffP m (x :: pre) = stepD m x ++ diffP m pre := rfl
    rw [this, List.length_append, List.length_cons]
    have : (stepD m x).length ≤ 1 := by unfold stepD; split <;> simp
    omega
theorem diffP_upto (l m : List ByteArray) (hl : m.length = l.length) : ∀ k, k ≤ l.length → diffP m (upto (pieceF l) k) = diffN l m k
  | 0, _ => rfl
  | k + 1, hk => by
    rw [upto_succ, diffP_snoc, diffP_upto l m hl k (by omega), diffN]
    congr 1
    unfold stepD pieceF
    simp only
    rw [getV_in (by omega)]
    by_cases h : l.getD k .empty = m.getD k .empty
    · rw [if_pos h.symm, if_pos h]
    · rw [if_neg (fun e => h e.symm), if_neg h]
/-- append of one piece, inside a fence -/
theorem wpListIn_app2 {F : Fence} {n0 : Nat} {P : Program} {ops : Array Oper} {rest : List Oper} {o : Oper} {a : Act} {Q : Exit → Act → World → Prop} {w : World} (t E : TypeId)
    (ht : P.underlying t = some (.slice E)) (i : TypeInfo) (z : Value) (hi : P.info? E = some i) (hz : i.zero = some z) (hsize : i.size = 2) (hby : i.bytes = 24) (hzs : z.cells.size = 2)
    (hgd : o.guard = none) (s x : Operand) (ho : o.op = .call { callee := .builtin .append, args := #[s, x], argTypes := #[t, t] })
    (base : Nat) (v : Value) (n : Nat) (xs : List Value) (hs : a.eval s = v) (hown : w.ownsRow base E 2 v n xs)
    (y0 y1 : Value) (E' : TypeId) (hx : a.eval x = .slice (some ⟨w.heap.size, 0, none⟩) 1 1) (h0 : y0.oneCell' = true) (h1 : y1.oneCell' = true)
    (hn : n ≤ 1000000000) (hbase : base ≤ w.heap.size)
    (h : ∀ ad' c' w', w'.ownsRow base E 2 (.slice ad' (n + 1) c') (n + 1) (xs ++ [y0, y1]) → (w.alloc (.cells #[y0, y1] E')).grownBy w' v.ownBlock →
      wpListIn F n0 P ops Q rest (a.put o.dst (.slice ad' (n + 1) c')) w') : wpListIn F n0 P ops Q (o :: rest) a (w.alloc (.cells #[y0, y1] E')) := by
  refine wpListIn_append_own _ hgd s x t ho base E i z 2 24 ht hi hz hsize hby hzs (by omega) v n xs hs (World.ownsRow.alloc hown _) ⟨w.heap.size, 0, none⟩ 1 1 [y0, y1] hx rfl (World.news_of_block (row_new w #[y0, y1] E'))
    (by intro u hu; simp at hu; rcases hu with rfl | rfl <;> assumption) (by unfold maxLen; omega) (by omega) (by simp; omega) ?_
  intro v' w' g1 g2 _
  obtain ⟨ad', c', rfl⟩ := own_form_k g1
  exact h ad' c' w' g1 g2
theorem boxed_below {w W : World} {B : Nat} {t : TypeId} {v : Value} (h : Boxed w B t v) (hb : Below w.heap.size w W) : Boxed W B t v := (hb.block B h.lt).trans h
theorem below_others {w w' : World} (h : Below w.heap.size w w') : KeepsOthers w w' := ⟨h.size, fun k _ hk _ => (h.block k (Array.getElem?_eq_some_iff.1 hk).1).trans hk⟩
theorem keepS2_app {w' w3 : World} {v v' : Value} {Bd b m e base B n : Nat} {E T : TypeId} {size : Nat} {xs : List Value} {cs cs' : Array Value} {tmp : Obj} (hg : (w'.alloc tmp).grownBy w3 v.ownBlock) (hd : w'.heap[Bd]? = some (.cells cs T (0, 0))) (he : w'.heap[e]? = some (.cells cs' T (0, 0)))
    (hrow : w'.ownsRow base E size v n xs) (hTE : T ≠ E) (hb : m ≠ 0 → b < base) (hz : base ≤ w'.heap.size) (h1 : Bd ≠ B) (h2 : e ≠ B) (h3 : base ≤ B) : KeepS (SDoc2 Bd b m e) w' (w3.setCell ⟨B, 0, none⟩ v') := by
  have key : ∀ k, k ≠ B → k < w'.heap.size → v.ownBlock ≠ some k → (w3.setCell ⟨B, 0, none⟩ v').heap[k]? = w'.heap[k]? := fun k hk hlt hne =>
    (Below.heap_setCell w3 ⟨B, 0, none⟩ v' k hk).trans ((hg.block k (by simp; omega) (fun e => hne e.symm)).trans (Below.heap_alloc _ _ _ hlt))
  rintro k ((rfl | ⟨rfl, hm⟩) | rfl)
  · exact key _ h1 (Array.getElem?_eq_some_iff.1 hd).1 (own_other hrow hd hTE)
  · have := hb hm
    exact key _ (by omega) (by omega) (fun e => by have := (World.ownsRow.lt hrow _ e).1; omega)
  · exact key _ h2 (Array.getElem?_eq_some_iff.1 he).1 (own_other hrow he hTE)
end Go.Proofs.YtpionddponmdmaaGreatDoor
