/- A region that draws its order: first reads and calls that make memory at most, then a chain of any operations: one walk, in the order of the text. -/
import Derived.Test.YtpionddponmdmaaDoorQ01
import Derived.StillTail
import Derived.Deep.RegionHeld3
import Derived.Deep.AppendLies
import Derived.Deep.DrawnRows
import Derived.Laws.AppendOwnNone
namespace Go.Proofs.YtpionddponmdmaaDoor
open Go.RowKit

section
variable {P : Program} {ops : Array Oper} {md : Region.Mode} {C : World → Prop}

def wpAnyLQ (P : Program) (md : Region.Mode) (ops : Array Oper) (C : World → Prop) (n : Nat) (L : Array Bool → Act → Prop) : Nat → Array Bool → Act → Prop
  | 0, listed, a => L listed a
  | f + 1, listed, a =>
    Region.ready md ops listed ≠ [] ∧ ∀ i ∈ Region.ready md ops listed, i < n ∧ qOp P ops C i (wpAnyLQ P md ops C n L f (listed.setIfInBounds i true)) a

theorem wpAny_of_headQ {n g : Nat} {L : Array Bool → Act → Prop} {Q' : Exit → Act → World → Prop} (hL : ∀ listed a w, C w → L listed a → wpAny P md ops Q' g listed a w) :
    ∀ (f : Nat) (listed : Array Bool) (a : Act) (w : World), C w → wpAnyLQ P md ops C n L f listed a → wpAny P md ops Q' (f + g) listed a w
  | 0, listed, a, w, hC, h => by rw [Nat.zero_add]; exact hL _ _ _ hC h
  | f + 1, listed, a, w, hC, h => by
    rw [show f + 1 + g = (f + g) + 1 by omega]
    exact ⟨fun h0 => absurd h0 h.1, fun i hi => wpOp_of_qOp hC (fun a' w' hC' h' => wpAny_of_headQ hL f _ a' w' hC' h') (h.2 i hi).2⟩

theorem wpAnyLQ_first {n i : Nat} {oi : Oper} {v : Value} {L : Array Bool → Act → Prop} (hi : ops[i]? = some oi) (hsel : ∀ (j : Nat) (o : Oper) cs b, ops[j]? = some o → o.op ≠ .select cs b)
    (hs : Region.sinkB md ops n = true) (hc : Region.chainB md ops n = true) (hn : n < ops.size) (hin : i < n)
    (hdone : ∀ listed a, L listed a → ∀ j ∈ Region.ready md ops listed, n ≤ j) :
    ∀ (f : Nat) (listed : Array Bool) (a : Act), HeadInv md ops n listed →
      (∀ j oj, ops[j]? = some oj → j ≠ i → listed.getD j true = false → (∀ e ∈ oj.after, Region.binds md e = true → e.on ≠ i) → oi.apart ops oj = true) →
      i ∈ Region.ready md ops listed → YieldsIn P ops C oi v a →
      wpAnyLQ P md ops C n L f (listed.setIfInBounds i true) (a.put oi.dst v) → wpAnyLQ P md ops C n L (f + 1) listed a := by
  intro f
  induction f with
  | zero =>
    intro listed a inv _ hr hy H
    have hun := (mem_ready.1 hr).1
    refine ⟨fun h => (by rw [h] at hr; cases hr), fun j hj => ?_⟩
    have hjn : j < n := by
      rcases Nat.lt_or_ge j n with h | h
      · exact h
      · exact absurd hj (tail_waits hs hc hn inv _ i rfl hin hun j h)
    refine ⟨hjn, ?_⟩
    by_cases hji : j = i
    · subst hji; exact hy.qOp hi H
    · have := hdone _ _ H j (ready_mono hj hji)
      omega
  | succ f ih =>
    intro listed a inv hfree hr hy H
    have hun := (mem_ready.1 hr).1
    refine ⟨fun h => (by rw [h] at hr; cases hr), fun j hj => ?_⟩
    have hjn : j < n := by
      rcases Nat.lt_or_ge j n with h | h
      · exact h
      · exact absurd hj (tail_waits hs hc hn inv _ i rfl hin hun j h)
    refine ⟨hjn, ?_⟩
    by_cases hji : j = i
    · subst hji; exact hy.qOp hi H
    · have h1 := (H.2 j (ready_mono hj hji)).2
      obtain ⟨hjun, oj, hoj, hall⟩ := mem_ready.1 hj
      have hnot : ∀ e ∈ oj.after, Region.binds md e = true → e.on ≠ i := fun e he hb heq => by
        have h1 := hall e he hb
        rw [heq, getD_both hun] at h1
        cases h1
      have h2 := qOp_put hoj (hfree j oj hoj hji hjun hnot) (fun cs b => hsel i oi cs b hi) (fun cs b => hsel j oj cs b hoj) hy h1
      have hfree' : ∀ k ok, ops[k]? = some ok → k ≠ i → (listed.setIfInBounds j true).getD k true = false →
          (∀ e ∈ ok.after, Region.binds md e = true → e.on ≠ i) → oi.apart ops ok = true := fun k ok hk hki hun hno => by
        refine hfree k ok hk hki ?_ hno
        by_cases hjk : j = k
        · subst hjk; exact hjun
        · rw [getD_set_ne true hjk] at hun; exact hun
      refine qOp_mono (fun a' h3 => ih (listed.setIfInBounds j true) a' (inv.set hj hjn) hfree' (ready_mono hr (Ne.symm hji)) h3.1 ?_) h2
      rw [Array.setIfInBounds_comm _ _ hji]
      exact h3.2

theorem seqB_readyQ {g k : Nat} {listed : Array Bool} (h : Region.seqB md ops g k listed = true) : ∀ j ∈ Region.ready md ops listed, k ≤ j := seqB_ready h

theorem wpAnyLQ_lex {n g : Nat} {Lq : Act → Prop} (hsel : Region.noSelect ops = true) (hs : Region.sinkB md ops n = true) (hc : Region.chainB md ops n = true) (hn : n < ops.size) :
    ∀ (l : List Oper) (k : Nat) (listed : Array Bool) (a : Act), (∀ j, j < l.length → l[j]? = ops[k + j]?) → k + l.length = n → HeadInv md ops n listed →
    Region.lexHead md ops g l.length k listed = true → wpQuiet P ops C Lq l a →
    wpAnyLQ P md ops C n (fun listed' a' => Region.seqB md ops g n listed' = true ∧ Lq a') l.length listed a
  | [], k, listed, a, _, hk, _, hB, h => by
    have : k = n := by simpa using hk
    subst this
    exact ⟨by simpa [Region.lexHead] using hB, h⟩
  | o :: l, k, listed, a, hl, hk, inv, hB, h => by
    have h0 : ops[k]? = some o := by simpa using (hl 0 (by simp)).symm
    simp only [List.length_cons, Region.lexHead, Bool.and_eq_true] at hB
    obtain ⟨⟨hr, hf⟩, hB'⟩ := hB
    have hkn : k < n := by simp only [List.length_cons] at hk; omega
    have hr' : k ∈ Region.ready md ops listed := by simpa using hr
    have hst : qOp P ops C k (wpQuiet P ops C Lq l) a := by unfold qOp; simp only [h0]; exact h
    obtain ⟨v, hy, hK⟩ := yieldsIn_of_qOp h0 hst
    exact wpAnyLQ_first h0 (Region.noSelect_spec hsel) hs hc hn hkn (fun listed' a' hL => seqB_ready hL.1) l.length listed a inv (Region.free_spec h0 hf) hr' hy
      (wpAnyLQ_lex hsel hs hc hn l (k + 1) _ _ (fun j hj => by have := hl (j + 1) (by simp; omega); simpa [Nat.add_assoc, Nat.add_comm 1 j] using this) (by simp only [List.length_cons] at hk; omega) (inv.set hr' hkn) hB' hK)

theorem wp_region_quiet_tail {id : Nat} {Q : Exit → Act → World → Prop} {a : Act} {w : World} {l : List Oper} (n : Nat) (hm : P.follows .mixedOrders = true) (hB : Region.lexTailB .any l.toArray n = true) (hC : C { w with drawn := w.drawn + 1 })
    (h : wpQuiet P l.toArray C (fun a' => ∀ w', C w' → wpList P l.toArray Q (l.drop n) a' w') (l.take n) a) : (Code.region id l.toArray true).wp P Q a w := by
  simp only [Region.lexTailB, Bool.and_eq_true, decide_eq_true_eq] at hB
  obtain ⟨⟨⟨⟨hsel, hn⟩, hs⟩, hc⟩, hlex⟩ := hB
  have hn' : n < l.length := by simpa using hn
  have htl : (l.take n).length = n := by simp; omega
  have hdl : (l.drop n).length = l.toArray.size - n := by simp
  have inv0 : HeadInv .any l.toArray n (Array.replicate l.toArray.size false) :=
    ⟨by simp, fun j oj _ hl => (by rw [getD_replicate_false] at hl; cases hl), fun t _ ht => getD_in (by simpa using ht) (getD_replicate_false _ _)⟩
  have H := wpAnyLQ_lex (C := C) (md := .any) (g := l.toArray.size - n) hsel hs hc hn (l.take n) 0 _ a (fun j hj => by
    have hj' : j < n := by rw [htl] at hj; exact hj
    simp [hj']) (by simpa using htl) inv0 (by rw [htl]; exact hlex) h
  refine wp_region_any hm ?_
  have := wpAny_of_headQ (Q' := Q) (g := l.toArray.size - n) (fun listed a' w' hCw hL => by
    have := wpAny_of_seq (md := .any) (Q' := Q) (l.drop n) n listed a' w' (fun j => by simp [List.getElem?_drop]) (by rw [hdl]; exact hL.1) (hL.2 w' hCw)
    rwa [hdl] at this) _ _ _ _ hC H
  rw [htl, show n + (l.toArray.size - n) = l.toArray.size by omega] at this
  exact this

/-- the same, where the calls make memory at most -/
theorem wp_region_ext_tail {id : Nat} {Q : Exit → Act → World → Prop} {a : Act} {w : World} {l : List Oper} (n : Nat) (hm : P.follows .mixedOrders = true) (hB : Region.lexTailB .any l.toArray n = true)
    (h : wpQuiet P l.toArray (fun w' => ∃ e : Ext w, w' = e.1) (fun a' => ∀ w', (∃ e : Ext w, w' = e.1) → wpList P l.toArray Q (l.drop n) a' w') (l.take n) a) : (Code.region id l.toArray true).wp P Q a w :=
  wp_region_quiet_tail (C := fun w' => ∃ e : Ext w, w' = e.1) n hm hB ⟨⟨_, (Below.refl _ w).drew⟩, rfl⟩ h
end
end Go.Proofs.YtpionddponmdmaaDoor
/- Slices of strings in regions that draw their order: one slice behind a row of the call's own. -/
namespace Go.Proofs.YtpionddponmdmaaDoor
open Go.RowKit
theorem wp_at_worldH {P : Program} {c : Code} {Q : Exit → Act → World → Prop} {a : Act} {w : World} (h : ∀ W, W = w → c.wp P Q a W) : c.wp P Q a w := h w rfl
theorem infoS : (Tryd.prog.info? 9).map (fun i => (i.zero, i.size, i.bytes)) = some (some (.string .empty), 1, 16) := by kernel_rfl
theorem cellsS : Tryd.prog.cellsOf 9 = 1 := by kernel_rfl
theorem bytesS : Tryd.prog.bytesOf 9 = 16 := by kernel_rfl
theorem strs_app (l m : List ByteArray) : strs (l ++ m) = strs l ++ strs m := by simp [strs]
theorem strs_one (l : List ByteArray) : ∀ u ∈ strs l, u.oneCell' = true := by
  intro u hu
  obtain ⟨s, _, rfl⟩ := List.mem_map.1 hu
  rfl
theorem add_flat (b off j : Nat) : (⟨b, off, none⟩ : Addr).add j = ⟨b, off + j, none⟩ := by
  unfold Addr.add
  split
  · rename_i h; subst h; rfl
  · rfl
/-- a row of the call's own behind which another slice is laid -/
theorem run_app_strs {w : World} (ty : TypeId) (base : Nat) (ad : Option Addr) (k c : Nat) (ys : List Value) (hown : w.ownsRow base 9 1 (.slice ad k c) k ys) (ad2 : Option Addr) (n c2 : Nat) (xs : List ByteArray)
    (hx : Sl w ad2 n (strs xs)) (hc : ad2 = none → c2 = 0) (hr : (k + n) * 16 ≤ 140737488355328) (hb : base ≤ w.heap.size) :
    ∃ ad' c' w', (Builtin.append_ #[36, 36] ty #[.slice ad k c, .slice ad2 n c2]).run Tryd.prog w = .ok (.slice ad' (k + n) c') w' ∧
      w'.ownsRow base 9 1 (.slice ad' (k + n) c') (k + n) (ys ++ strs xs) ∧ w.grownBy w' (Value.ownBlock (.slice ad k c)) ∧ (ad' = none → ad = none) := by
  obtain ⟨i0, hi, hz0, hz1, hz2⟩ := info_parts infoS
  obtain ⟨b, off, hs⟩ := hx
  have hl : xs.length = n := by have := hs.len; rw [strs_length] at this; exact this
  cases ad2 with
  | none =>
    have h0 : n = 0 := by
      rcases Nat.eq_zero_or_pos n with h | h
      · exact h
      · have := hs.adr (by omega); cases this
    obtain rfl := hc rfl
    subst h0
    have hxs : xs = [] := List.eq_nil_of_length_eq_zero hl
    subst hxs
    refine ⟨ad, c, w, run_append_owned_none w base 36 ty 9 i0 1 Tryd.underlying36 hi (.slice ad k c) k ys hown, by simpa [strs] using hown, World.grownBy.refl _ _, fun h => h⟩
  | some A2 =>
    have news : ∀ j u, (strs xs)[j]? = some u → w.cell? (A2.add j) = some u := by
      intro j u hu
      have hj : j < (strs xs).length := (List.getElem?_eq_some_iff.1 hu).1
      rw [strs_length, hl] at hj
      have ha : A2 = ⟨b, off, none⟩ := by have := hs.adr (by omega); injection this
      rw [ha, add_flat, hs.cell j hj, List.getD, hu]; rfl
    obtain ⟨v', w', h1, h2, h3, h4⟩ := run_append_own (P := Tryd.prog) (w := w) base 36 ty 9 i0 (.string .empty) 1 16 Tryd.underlying36 hi hz0 hz1 hz2 rfl (by omega) (.slice ad k c) k ys hown A2 n c2 (strs xs)
      (by rw [strs_length, hl]; omega) news (strs_one xs) (by unfold maxLen; omega) hr hb
    obtain ⟨ad', c', rfl⟩ := own_form h2
    refine ⟨ad', c', w', h1, h2, h3, fun h => ?_⟩
    subst h
    rcases h2.2 with ⟨e, _⟩ | ⟨g, cap, cur, e, _⟩
    · exact (Value.slice.inj (h4.1 e).1).1
    · cases (Value.slice.inj e).1
/-- at an operation -/
theorem wp_app_strs {o : Oper} {a : Act} {w : World} {K : Act → World → Prop} {Q : Exit → Act → World → Prop} (s x : Operand)
    (ho : o.op = .call { callee := .builtin .append, args := #[s, x], argTypes := #[36, 36] })
    (base : Nat) (ad : Option Addr) (k c : Nat) (ys : List Value) (hs : a.eval s = .slice ad k c) (hown : w.ownsRow base 9 1 (.slice ad k c) k ys) (ad2 : Option Addr) (n c2 : Nat) (xs : List ByteArray)
    (hxe : a.eval x = .slice ad2 n c2) (hx : Sl w ad2 n (strs xs)) (hc : ad2 = none → c2 = 0) (hr : (k + n) * 16 ≤ 140737488355328) (hb : base ≤ w.heap.size)
    (h : ∀ ad' c' w', w'.ownsRow base 9 1 (.slice ad' (k + n) c') (k + n) (ys ++ strs xs) → w.grownBy w' (Value.ownBlock (.slice ad k c)) → (ad' = none → ad = none) → K (a.put o.dst (.slice ad' (k + n) c')) w') : o.wp Tryd.prog a w K Q := by
  obtain ⟨ad', c', w', h1, h2, h3, h4⟩ := run_app_strs o.type base ad k c ys hown ad2 n c2 xs hx hc hr hb
  unfold Oper.wp execOp
  simp only [ho, resolve, invoke, builtin, Sem.run_bind, Sem.run_pure, Result.andThen_ok, List.map_toArray, List.map_cons, List.map_nil, hs, hxe, h1]
  exact h ad' c' w' h2 h3 h4
/-- at a step of a region that draws its order -/
theorem step_app_strs {ops : Array Oper} {o : Oper} {a : Act} {w : World} {K : Act → World → Prop} {Q : Exit → Act → World → Prop} {E : Prop} (hgd : o.guard = none) (s x : Operand)
    (ho : o.op = .call { callee := .builtin .append, args := #[s, x], argTypes := #[36, 36] })
    (base : Nat) (ad : Option Addr) (k c : Nat) (ys : List Value) (hs : a.eval s = .slice ad k c) (hown : w.ownsRow base 9 1 (.slice ad k c) k ys) (ad2 : Option Addr) (n c2 : Nat) (xs : List ByteArray)
    (hxe : a.eval x = .slice ad2 n c2) (hx : Sl w ad2 n (strs xs)) (hc : ad2 = none → c2 = 0) (hr : (k + n) * 16 ≤ 140737488355328) (hb : base ≤ w.heap.size)
    (h : ∀ ad' c' w', w'.ownsRow base 9 1 (.slice ad' (k + n) c') (k + n) (ys ++ strs xs) → w.grownBy w' (Value.ownBlock (.slice ad k c)) → (ad' = none → ad = none) → K (a.put o.dst (.slice ad' (k + n) c')) w') :
    if Region.wanted o (yielded ops a.tmps) = true then Oper.wp Tryd.prog o a w K Q else E := by
  have hw : Region.wanted o (yielded ops a.tmps) = true := by simp [Region.wanted, hgd]
  rw [if_pos hw]
  exact wp_app_strs s x ho base ad k c ys hs hown ad2 n c2 xs hxe hx hc hr hb h
/-- in a list of operations -/
theorem wpList_app_strs {ops : Array Oper} {rest : List Oper} {o : Oper} {a : Act} {w : World} {Q : Exit → Act → World → Prop} (hgd : o.guard = none) (s x : Operand)
    (ho : o.op = .call { callee := .builtin .append, args := #[s, x], argTypes := #[36, 36] })
    (base : Nat) (ad : Option Addr) (k c : Nat) (ys : List Value) (hs : a.eval s = .slice ad k c) (hown : w.ownsRow base 9 1 (.slice ad k c) k ys) (ad2 : Option Addr) (n c2 : Nat) (xs : List ByteArray)
    (hxe : a.eval x = .slice ad2 n c2) (hx : Sl w ad2 n (strs xs)) (hc : ad2 = none → c2 = 0) (hr : (k + n) * 16 ≤ 140737488355328) (hb : base ≤ w.heap.size)
    (h : ∀ ad' c' w', w'.ownsRow base 9 1 (.slice ad' (k + n) c') (k + n) (ys ++ strs xs) → w.grownBy w' (Value.ownBlock (.slice ad k c)) → (ad' = none → ad = none) → wpList Tryd.prog ops Q rest (a.put o.dst (.slice ad' (k + n) c')) w') : wpList Tryd.prog ops Q (o :: rest) a w :=
  wpList_plain hgd fun _ hK => wp_app_strs s x ho base ad k c ys hs hown ad2 n c2 xs hxe hx hc hr hb fun ad' c' w' h2 h3 h4 => hK _ _ (h ad' c' w' h2 h3 h4)
/-- the cells of a block that is known whole -/
theorem row_cells {w : World} {B : Nat} {cs : Array Value} {t : TypeId} (hb : w.heap[B]? = some (.cells cs t (0, 0))) (j : Nat) : w.cell? ⟨B, j, none⟩ = cs[j]? := by
  simp [World.cell?, hb]
theorem row_frozen {w : World} {B : Nat} {cs : Array Value} {t : TypeId} (hb : w.heap[B]? = some (.cells cs t (0, 0))) (j : Nat) : w.frozen? ⟨B, j, none⟩ = false := by
  simp [World.frozen?, hb]
theorem row_new (w : World) (cs : Array Value) (t : TypeId) : (w.alloc (.cells cs t)).heap[w.heap.size]? = some (.cells cs t (0, 0)) := by show (w.heap.push _)[w.heap.size]? = _; simp
theorem row_new2 (w : World) (o : Obj) (cs : Array Value) (t : TypeId) : ((w.alloc o).alloc (.cells cs t)).heap[w.heap.size + 1]? = some (.cells cs t (0, 0)) := by
  have := row_new (w.alloc o) cs t
  rwa [World.size_alloc] at this
/-- .. behind a store -/
theorem row_set {w : World} {B : Nat} {cs : Array Value} {t : TypeId} (hb : w.heap[B]? = some (.cells cs t (0, 0))) (j : Nat) (v : Value) : (w.setCell ⟨B, j, none⟩ v).heap[B]? = some (.cells (cs.setIfInBounds j v) t (0, 0)) := by
  simp [World.setCell, Array.getElem?_modify, hb]
/-- a row of the call's own is another block than one of another type -/
theorem own_other {w : World} {base : Nat} {E T : TypeId} {size : Nat} {v : Value} {n : Nat} {xs : List Value} {b : Nat} {cs : Array Value} {fr : Nat × Nat} (hown : w.ownsRow base E size v n xs) (hb : w.heap[b]? = some (.cells cs T fr)) (hTe : T ≠ E) : v.ownBlock ≠ some b := by
  rcases hown.2 with ⟨rfl, _⟩ | ⟨g, cap, cur, rfl, _, hg, _⟩
  · simp [Value.ownBlock]
  · intro h
    simp only [Value.ownBlock, Option.some.injEq] at h
    subst h
    rw [hg] at hb
    simp only [Option.some.injEq, Obj.cells.injEq] at hb
    exact hTe hb.2.1.symm
theorem own_set {w : World} {base : Nat} {E T : TypeId} {size : Nat} {v : Value} {n : Nat} {xs : List Value} {b : Nat} {cs : Array Value} {fr : Nat × Nat} (hown : w.ownsRow base E size v n xs) (hb : w.heap[b]? = some (.cells cs T fr)) (hTe : T ≠ E) (j : Nat) (u : Value) : (w.setCell ⟨b, j, none⟩ u).ownsRow base E size v n xs :=
  hown.kept (row := some b) ⟨rfl, rfl, rfl, by simp [World.setCell], fun k _ hk => Below.heap_setCell _ _ _ _ (fun e => hk (by simp [e]))⟩ (Or.inr (own_other hown hb hTe))
/-- what lay ahead of a new row is as it was -/
theorem app_below {W w' : World} {o : Obj} {n c : Nat} (hg : ((W.alloc o).drew).grownBy w' (Value.ownBlock (.slice (some ⟨W.heap.size, 0, none⟩) n c))) : Below W.heap.size W w' :=
  (((Below.refl W.heap.size W).alloc (Nat.le_refl _) o).drew).grown hg (by simp) (fun k hk => by simp [Value.ownBlock] at hk; omega)
/-- an empty slice that was made just now -/
theorem own_empty (w : World) (E : TypeId) : (w.alloc (.cells #[] E)).ownsRow w.heap.size E 1 (.slice (some ⟨w.heap.size, 0, none⟩) 0 0) 0 [] :=
  ⟨rfl, .inr ⟨w.heap.size, 0, #[], rfl, Nat.le_refl _, by show (w.heap.push _)[w.heap.size]? = some _; simp, Nat.le_refl _, by unfold maxLen; omega, rfl, rfl⟩⟩
theorem own_one (w : World) (E : TypeId) (v : Value) : (w.alloc (.cells #[v] E)).ownsRow w.heap.size E 1 (.slice (some ⟨w.heap.size, 0, none⟩) 1 1) 1 [v] :=
  ⟨rfl, .inr ⟨w.heap.size, 1, #[v], rfl, Nat.le_refl _, by show (w.heap.push _)[w.heap.size]? = some _; simp, Nat.le_refl _, by unfold maxLen; omega, rfl, rfl⟩⟩
/-- .. of one element, behind a draw, and beside another block -/
theorem own_one_d (w : World) (E : TypeId) (v : Value) : ((w.alloc (.cells #[v] E)).drew).ownsRow w.heap.size E 1 (.slice (some ⟨w.heap.size, 0, none⟩) 1 1) 1 [v] := Own.below (own_one w E v) (below_drew1 _)
theorem own_one_a (w : World) (E : TypeId) (v : Value) (o : Obj) : (((w.alloc (.cells #[v] E)).alloc o).drew).ownsRow w.heap.size E 1 (.slice (some ⟨w.heap.size, 0, none⟩) 1 1) 1 [v] :=
  Own.below (own_one w E v) (((Below.refl _ _).alloc (Nat.le_refl _) _).drew)
theorem own_one_b (w : World) (E : TypeId) (v : Value) (o : Obj) : (((w.alloc o).alloc (.cells #[v] E)).drew).ownsRow w.heap.size E 1 (.slice (some ⟨w.heap.size + 1, 0, none⟩) 1 1) 1 [v] := by
  have := own_one_d (w.alloc o) E v
  rw [World.size_alloc] at this
  exact Own.rebase this (by omega)
theorem sl_one {w : World} {B : Nat} {E : TypeId} {s : ByteArray} (hb : w.heap[B]? = some (.cells #[.string s] E (0, 0))) : Sl w (some ⟨B, 0, none⟩) 1 (strs [s]) :=
  ⟨B, 0, ⟨rfl, by omega, fun _ => rfl, fun i hi => by
    obtain rfl : i = 0 := by omega
    rw [Nat.zero_add, row_cells hb]; rfl⟩⟩
/-- what an append to a new row leaves, where another block was laid beside -/
theorem app_below2 {W w' : World} {o o' : Obj} {k n c : Nat} (hk : W.heap.size ≤ k) (hg : (((W.alloc o).alloc o').drew).grownBy w' (Value.ownBlock (.slice (some ⟨k, 0, none⟩) n c))) : Below W.heap.size W w' :=
  ((((Below.refl W.heap.size W).alloc (Nat.le_refl _) o).alloc (by simp) o').drew).grown hg (by simp; omega) (fun q hq => by simp [Value.ownBlock] at hq; omega)
theorem app_side {W w' : World} {o o' : Obj} {n c : Nat} (hg : (((W.alloc o).alloc o').drew).grownBy w' (Value.ownBlock (.slice (some ⟨W.heap.size, 0, none⟩) n c))) : w'.heap[W.heap.size + 1]? = some o' := by
  rw [hg.block (W.heap.size + 1) (by simp) (by simp [Value.ownBlock])]
  have h1 : ((W.alloc o).alloc o').heap[(W.alloc o).heap.size]? = some o' := Array.getElem?_push_size
  rw [World.size_alloc] at h1
  exact h1
theorem app_side2 {W w' : World} {o o' : Obj} {n c : Nat} (hg : (((W.alloc o).alloc o').drew).grownBy w' (Value.ownBlock (.slice (some ⟨W.heap.size + 1, 0, none⟩) n c))) : w'.heap[W.heap.size]? = some o := by
  rw [hg.block W.heap.size (by simp; omega) (by simp [Value.ownBlock])]
  have h1 : (W.alloc o).heap[W.heap.size]? = some o := Array.getElem?_push_size
  exact (Below.heap_alloc (W.alloc o) o' W.heap.size (by simp)).trans h1
end Go.Proofs.YtpionddponmdmaaDoor
