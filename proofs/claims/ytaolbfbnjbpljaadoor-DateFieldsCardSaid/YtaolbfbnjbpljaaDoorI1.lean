/- A region that draws its order, by an invariant: what holds of the slots and of the world when some of its operations have been carried out. -/
import Derived.Test.YtaolbfbnjbpljaaDoorK
namespace Go.Proofs.YtaolbfbnjbpljaaDoor
open Go.RowKit

section
variable {P : Program} {ops : Array Oper} {Q : Exit → Act → World → Prop}

/-- every operation, once those that it waits for are done, keeps J -/
def StepsOk (P : Program) (ops : Array Oper) (Q : Exit → Act → World → Prop) (J : Array Bool → Act → World → Prop) : Nat → List Oper → Prop
  | _, [] => True
  | i, o :: r => (∀ L a w, L.size = ops.size → L.getD i true = false → (∀ e ∈ o.after, Region.binds .any e = true → L.getD e.on false = true) → J L a w →
      if Region.wanted o (yielded ops a.tmps) = true then o.wp P a w (J (L.setIfInBounds i true)) Q else J (L.setIfInBounds i true) (a.put o.dst undef) w) ∧ StepsOk P ops Q J (i + 1) r

theorem StepsOk.at {J : Array Bool → Act → World → Prop} : ∀ (l : List Oper) (k : Nat), StepsOk P ops Q J k l → ∀ (i : Nat) (o : Oper), l[i]? = some o → ∀ L a w, L.size = ops.size → L.getD (k + i) true = false →
    (∀ e ∈ o.after, Region.binds .any e = true → L.getD e.on false = true) → J L a w →
    if Region.wanted o (yielded ops a.tmps) = true then o.wp P a w (J (L.setIfInBounds (k + i) true)) Q else J (L.setIfInBounds (k + i) true) (a.put o.dst undef) w
  | [], _, _, i, o, h => by simp at h
  | o' :: r, k, hs, 0, o, h => by
    simp at h
    subst h
    exact hs.1
  | o' :: r, k, hs, i + 1, o, h => by
    have := StepsOk.at r (k + 1) hs.2 i o (by simpa using h)
    rwa [show k + 1 + i = k + (i + 1) by omega] at this

/-- every edge leads to an earlier operation -/
def downB (ops : List Oper) : Nat → Bool
  | 0 => true
  | n + 1 => downB ops n && (match ops[n]? with | some o => o.after.toList.all (fun e => !Region.binds .any e || decide (e.on < n)) | none => true)

theorem downB_spec {l : List Oper} : ∀ {n : Nat}, downB l n = true → ∀ i o, i < n → l[i]? = some o → ∀ e ∈ o.after, Region.binds .any e = true → e.on < i
  | 0, _, i, _, h, _ => by omega
  | n + 1, hd, i, o, h, ho => by
    simp only [downB, Bool.and_eq_true] at hd
    by_cases e : i = n
    · subst e
      have h2 := hd.2
      rw [ho] at h2
      simp only [List.all_eq_true, Bool.or_eq_true, decide_eq_true_eq] at h2
      intro e he hb
      rcases h2 e (by simpa using he) with h3 | h3
      · rw [hb] at h3; cases h3
      · exact h3
    · exact downB_spec hd.1 i o (by omega) ho

theorem ready_of_open {l : List Oper} (hd : downB l l.length = true) {L : Array Bool} (hL : L.size = l.length) (h : ∃ i, i < l.length ∧ L.getD i true = false) : Region.ready .any l.toArray L ≠ [] := by
  intro h0
  have key : ∀ n i, i < n → i < l.length → L.getD i true = true := by
    intro n
    induction n with
    | zero => intro i hi; omega
    | succ n ih =>
      intro i hi hl
      by_cases hin : i < n
      · exact ih i hin hl
      · cases hb : L.getD i true with
        | true => rfl
        | false =>
          have hm : i ∈ Region.ready .any l.toArray L := by
            rw [mem_ready]
            refine ⟨hb, l[i], by simp [hl], fun e he hbd => ?_⟩
            have := downB_spec hd i l[i] hl (by simp [hl]) e he hbd
            have h2 := ih e.on (by omega) (by omega)
            have h3 : e.on < L.size := by omega
            simp only [Array.getD, h3, dif_pos] at h2 ⊢
            exact h2
          rw [h0] at hm
          cases hm
  obtain ⟨i, hi, hb⟩ := h
  rw [key (i + 1) i (by omega) hi] at hb
  cases hb

theorem count_set : ∀ (l : List Bool) (i : Nat), l[i]? = some false → ((l.set i true).filter (· == false)).length + 1 = (l.filter (· == false)).length
  | [], i, h => by simp at h
  | x :: l, 0, h => by
    simp at h
    subst h
    simp
  | x :: l, i + 1, h => by
    have := count_set l i (by simpa using h)
    cases x <;> simp [List.set_cons_succ] at this ⊢ <;> omega

theorem wpAny_of_inv {l : List Oper} (hd : downB l l.length = true) {J : Array Bool → Act → World → Prop} (hs : StepsOk P l.toArray Q J 0 l)
    (hend : ∀ L a w, (∀ i, i < l.length → L.getD i false = true) → J L a w → Q .normal a w) : ∀ (fuel : Nat) (L : Array Bool) (a : Act) (w : World), L.size = l.length → (L.toList.filter (· == false)).length ≤ fuel → J L a w →
    wpAny P .any l.toArray Q fuel L a w := by
  have done : ∀ (L : Array Bool) (a : Act) (w : World), L.size = l.length → Region.ready .any l.toArray L = [] → J L a w → Q .normal a w := by
    intro L a w hL hr hJ
    refine hend L a w (fun i hi => ?_) hJ
    have h1 : L.getD i true = true := by
      cases hb : L.getD i true with
      | true => rfl
      | false => exact absurd hr (ready_of_open hd hL ⟨i, hi, hb⟩)
    have h3 : i < L.size := by omega
    simp only [Array.getD, h3, dif_pos] at h1 ⊢
    exact h1
  intro fuel
  induction fuel with
  | zero =>
    intro L a w hL hf hJ
    have hr : Region.ready .any l.toArray L = [] := by
      apply List.eq_nil_iff_forall_not_mem.2
      intro i hi
      have h1 := (mem_ready.1 hi).1
      have h2 : i < L.size := by
        rcases Nat.lt_or_ge i L.size with h | h
        · exact h
        · simp [Array.getD, Nat.not_lt.2 h] at h1
      simp only [Array.getD, h2, dif_pos] at h1
      have h3 : false ∈ L.toList.filter (· == false) := by
        rw [List.mem_filter]
        refine ⟨?_, rfl⟩
        have : L[i] ∈ L.toList := Array.getElem_mem_toList h2
        have h1' : L[i] = false := h1
        rwa [h1'] at this
      have := List.length_pos_of_mem h3
      omega
    exact ⟨hr, done L a w hL hr hJ⟩
  | succ fuel ih =>
    intro L a w hL hf hJ
    refine ⟨fun hr => done L a w hL hr hJ, fun i hi => ?_⟩
    obtain ⟨h1, o, ho, hp⟩ := mem_ready.1 hi
    have h2 : i < L.size := by
      rcases Nat.lt_or_ge i L.size with h | h
      · exact h
      · simp [Array.getD, Nat.not_lt.2 h] at h1
    have hlt : i < l.length := by omega
    have hstep := StepsOk.at l 0 hs i o (by simpa using ho) L a w (by simpa using hL) (by simpa using h1) hp hJ
    rw [Nat.zero_add] at hstep
    have hcount : ((L.setIfInBounds i true).toList.filter (· == false)).length ≤ fuel := by
      have hLi : L[i] = false := by simpa [Array.getD, h2] using h1
      have := count_set L.toList i (by simp [h2, hLi])
      rw [Array.toList_setIfInBounds]
      omega
    have hsz : (L.setIfInBounds i true).size = l.length := by simpa using hL
    unfold wpOp
    simp only [ho]
    split
    · rename_i hw
      rw [if_pos hw] at hstep
      exact .inl (Oper.wp_mono (fun a' w' hJ' => ih _ a' w' hsz hcount hJ') hstep)
    · rename_i hw
      rw [if_neg hw] at hstep
      exact ih _ _ _ hsz hcount hstep

/-- a agrees with a0 outside the slots ds -/
structure Fr (a0 a : Act) (ds : List Nat) : Prop where
  defers : a.defers = a0.defers
  size : a.tmps.size = a0.tmps.size
  rest : ∀ t, t ∉ ds → a.tmps.getD t undef = a0.tmps.getD t undef

/-- (operation, slot, value): the slot holds the value once the operation is done -/
def Tab (T : List (Nat × Nat × Value)) (L : Array Bool) (a : Act) : Prop := ∀ x ∈ T, L.getD x.1 false = true → a.tmps.getD x.2.1 undef = x.2.2

theorem getD_put_same {a : Act} {d : Nat} {v : Value} (h : d < a.tmps.size) : (a.put (some d) v).tmps.getD d undef = v := by
  simp [Act.put, h]
theorem getD_put_other {a : Act} {d t : Nat} {v : Value} (h : d ≠ t) : (a.put (some d) v).tmps.getD t undef = a.tmps.getD t undef := by
  simp [Act.put, Array.getD_eq_getD_getElem?, h]
theorem Fr.put {a0 a : Act} {ds : List Nat} (h : Fr a0 a ds) {d : Nat} (hd : d ∈ ds) (v : Value) : Fr a0 (a.put (some d) v) ds :=
  ⟨h.defers, by simpa [Act.put] using h.size, fun t ht => by rw [getD_put_other (fun e => ht (by rw [← e]; exact hd))]; exact h.rest t ht⟩
theorem Tab.put {T : List (Nat × Nat × Value)} {L : Array Bool} {a : Act} (h : Tab T L a) {i d : Nat} {v : Value} (hd : d < a.tmps.size) (_hi : i < L.size) (hT : ∀ x ∈ T, (x.1 = i ↔ x.2.1 = d) ∧ (x.1 = i → x.2.2 = v)) :
    Tab T (L.setIfInBounds i true) (a.put (some d) v) := by
  intro x hx hL
  by_cases e : x.1 = i
  · rw [((hT x hx).1.1 e), getD_put_same hd, (hT x hx).2 e]
  · rw [getD_put_other (fun e' => e ((hT x hx).1.2 e'.symm))]
    refine h x hx ?_
    have : L.getD x.1 false = (L.setIfInBounds i true).getD x.1 false := by
      simp [Array.getD_eq_getD_getElem?, Ne.symm e]
    rw [this]
    exact hL
/-- an operation without a slot -/
theorem Tab.skip {T : List (Nat × Nat × Value)} {L : Array Bool} {a : Act} (h : Tab T L a) {i : Nat} (hT : ∀ x ∈ T, x.1 ≠ i) : Tab T (L.setIfInBounds i true) a := by
  intro x hx hL
  refine h x hx ?_
  have : L.getD x.1 false = (L.setIfInBounds i true).getD x.1 false := by
    simp [Array.getD_eq_getD_getElem?, Ne.symm (hT x hx)]
  rw [this]
  exact hL
theorem getD_set_other {L : Array Bool} {i k : Nat} (h : i ≠ k) : (L.setIfInBounds i true).getD k false = L.getD k false := by
  simp [Array.getD_eq_getD_getElem?, h]
theorem getD_set_same {L : Array Bool} {i : Nat} (h : i < L.size) : (L.setIfInBounds i true).getD i false = true := by
  simp [h]
theorem wp_of_run {o : Oper} {a : Act} {w w' : World} {v : Value} {K : Act → World → Prop} (h : (execOp a.eval o).run P w = .ok (.value v) w') (hK : K (a.put o.dst v) w') : o.wp P a w K Q := by
  unfold Oper.wp
  rw [h]
  exact hK

theorem wp_region_gen {c : Code} {a : Act} {w : World} (h : ∀ A0, A0 = a → c.wp P Q A0 w) : c.wp P Q a w := h a rfl

theorem act_ext {a b : Act} (h1 : a.defers = b.defers) (h2 : a.tmps.size = b.tmps.size) (h3 : ∀ t, a.tmps.getD t undef = b.tmps.getD t undef) : a = b := by
  cases a
  cases b
  simp only at h1 h2 h3
  subst h1
  congr 1
  apply Array.ext h2
  intro i hi1 hi2
  have := h3 i
  simpa [Array.getD, hi1, hi2] using this

def puts (l : List (Nat × Value)) (a : Act) : Act := l.foldl (fun A x => A.put (some x.1) x.2) a

theorem puts_defers : ∀ (l : List (Nat × Value)) (a : Act), (puts l a).defers = a.defers
  | [], _ => rfl
  | x :: l, a => puts_defers l (a.put (some x.1) x.2)
theorem puts_size : ∀ (l : List (Nat × Value)) (a : Act), (puts l a).tmps.size = a.tmps.size
  | [], _ => rfl
  | x :: l, a => (puts_size l (a.put (some x.1) x.2)).trans (by simp [Act.put])
theorem puts_other : ∀ (l : List (Nat × Value)) (a : Act) (t : Nat), (∀ x ∈ l, x.1 ≠ t) → (puts l a).tmps.getD t undef = a.tmps.getD t undef
  | [], _, _, _ => rfl
  | x :: l, a, t, h => (puts_other l (a.put (some x.1) x.2) t (fun y hy => h y (by simp [hy]))).trans (getD_put_other (h x (by simp)))
theorem puts_same : ∀ (l : List (Nat × Value)) (a : Act), (l.map (·.1)).Nodup → (∀ x ∈ l, x.1 < a.tmps.size) → ∀ x ∈ l, (puts l a).tmps.getD x.1 undef = x.2
  | [], _, _, _, x, hx => by cases hx
  | y :: l, a, hn, hlt, x, hx => by
    simp only [List.map_cons, List.nodup_cons] at hn
    rcases List.mem_cons.1 hx with e | e
    · subst e
      exact (puts_other l (a.put (some x.1) x.2) x.1 (fun z hz e => hn.1 (by rw [← e]; exact List.mem_map_of_mem hz))).trans (getD_put_same (hlt x (by simp)))
    · exact puts_same l (a.put (some y.1) y.2) hn.2 (fun z hz => by simpa [Act.put] using hlt z (by simp [hz])) x e

theorem Fr.eq_puts {A0 a : Act} {ds : List Nat} (h : Fr A0 a ds) (l : List (Nat × Value)) (hl : l.map (·.1) = ds) (hn : ds.Nodup) (hlt : ∀ d ∈ ds, d < A0.tmps.size) (hv : ∀ x ∈ l, a.tmps.getD x.1 undef = x.2) : a = puts l A0 := by
  subst hl
  refine act_ext (by rw [h.defers, puts_defers]) (by rw [h.size, puts_size]) (fun t => ?_)
  by_cases ht : t ∈ l.map (·.1)
  · obtain ⟨x, hx, rfl⟩ := List.mem_map.1 ht
    rw [hv x hx, puts_same l A0 hn (fun z hz => hlt _ (List.mem_map_of_mem hz)) x hx]
  · rw [h.rest t ht, puts_other l A0 t (fun x hx e => ht (by rw [← e]; exact List.mem_map_of_mem hx))]

theorem eval_tmp (a : Act) (t : Nat) : a.eval (.tmp t) = a.tmps.getD t undef := rfl
theorem Fr.ev {A0 a : Act} {ds : List Nat} (h : Fr A0 a ds) {t : Nat} {v : Value} (ht : t ∉ ds) (hv : A0.tmps.getD t undef = v) : a.eval (.tmp t) = v := (h.rest t ht).trans hv
theorem Tab.ev {T : List (Nat × Nat × Value)} {L : Array Bool} {a : Act} (h : Tab T L a) {i d : Nat} {v : Value} (hx : (i, d, v) ∈ T) (hL : L.getD i false = true) : a.eval (.tmp d) = v := h _ hx hL

theorem if_plain {o : Oper} {y : Nat → Option Bool} {X Y : Prop} (hg : o.guard = none) (h : X) : if Region.wanted o y = true then X else Y := by
  rw [if_pos (by simp [Region.wanted, hg])]
  exact h
theorem wp_move {o : Oper} {a : Act} {w : World} {K : Act → World → Prop} (x : Operand) (ho : o.op = .move x) {v : Value} (hx : a.eval x = v) (hK : K (a.put o.dst v) w) : o.wp P a w K Q :=
  wp_of_run (by rw [BigFrame.run_move x ho, hx]) hK
theorem wp_assign {o : Oper} {a : Act} {w : World} {K : Act → World → Prop} (x : Operand) (ho : o.op = .assign x) {v : Value} (hx : a.eval x = v) (hK : K (a.put o.dst v) w) : o.wp P a w K Q :=
  wp_of_run (by rw [BigFrame.run_assign x ho, hx]) hK
theorem wp_load_run {o : Oper} {a : Act} {w : World} {K : Act → World → Prop} (ty : TypeId) (x : Operand) (ho : o.op = .load ty x) {p v : Value} (hx : a.eval x = p) (hl : (Instr.loadAt ty p).run P w = .ok v w) (hK : K (a.put o.dst v) w) : o.wp P a w K Q := by
  refine wp_of_run (v := v) (w' := w) ?_ hK
  unfold execOp
  simp [ho, hx, hl]
theorem wp_store_run {o : Oper} {a : Act} {w w' : World} {K : Act → World → Prop} (ty : TypeId) (x y : Operand) (ho : o.op = .store ty x y) {p v : Value} (hx : a.eval x = p) (hy : a.eval y = v) (hl : (Instr.storeAt ty p v).run P w = .ok () w') (hK : K (a.put o.dst undef) w') : o.wp P a w K Q := by
  unfold Oper.wp execOp
  simp only [ho, hx, hy, Sem.run_bind, Sem.run_pure, hl, Result.andThen_ok]
  exact hK
theorem wp_index_run {o : Oper} {a : Act} {w : World} {K : Act → World → Prop} (ty : TypeId) (x y : Operand) (ho : o.op = .indexAddr ty x y) {p i v : Value} (hx : a.eval x = p) (hy : a.eval y = i) (hl : (Instr.indexAt ty p i).run P w = .ok v w) (hK : K (a.put o.dst v) w) : o.wp P a w K Q := by
  refine wp_of_run (v := v) (w' := w) ?_ hK
  unfold execOp
  simp [ho, hx, hy, hl]
theorem wp_extract {o : Oper} {a : Act} {w : World} {K : Act → World → Prop} (x : Operand) (n : Nat) (ho : o.op = .extract x n) {vs : Array Value} {v : Value} (hx : a.eval x = .tuple vs) (hv : vs[n]? = some v) (hK : K (a.put o.dst v) w) : o.wp P a w K Q := by
  refine wp_of_run (v := v) (w' := w) ?_ hK
  unfold execOp
  simp [ho, hx, Instr.extract, hv]
theorem wp_alloc_run {o : Oper} {a : Act} {w w' : World} {K : Act → World → Prop} (ty : TypeId) (ho : o.op = .alloc ty) {v : Value} (hl : (Instr.alloc ty true (.tuple #[])).run P w = .ok v w') (hK : K (a.put o.dst v) w') : o.wp P a w K Q := by
  refine wp_of_run (v := v) (w' := w') ?_ hK
  unfold execOp
  simp [ho, hl]

theorem wp_field_run {o : Oper} {a : Act} {w : World} {K : Act → World → Prop} (ty : TypeId) (x : Operand) (n : Nat) (ho : o.op = .fieldAddr ty x n) {p v : Value} (hx : a.eval x = p) (hl : (Instr.fieldAt ty p n).run P w = .ok v w) (hK : K (a.put o.dst v) w) : o.wp P a w K Q := by
  refine wp_of_run (v := v) (w' := w) ?_ hK
  unfold execOp
  simp [ho, hx, hl]

theorem wp_region_inv {id : Nat} {l : List Oper} {a : Act} {w : World} (J : Array Bool → Act → World → Prop) (hm : P.follows .mixedOrders = true) (hd : downB l l.length = true)
    (h0 : J (Array.replicate l.length false) a w.drew) (hs : StepsOk P l.toArray Q J 0 l)
    (hend : ∀ L a w, (∀ i, i < l.length → L.getD i false = true) → J L a w → Q .normal a w) : (Code.region id l.toArray true).wp P Q a w := by
  refine wp_region_any hm ?_
  refine wpAny_of_inv hd hs hend _ _ _ _ (by simp) ?_ h0
  have := List.length_filter_le (· == false) (Array.replicate l.toArray.size false).toList
  simp at this ⊢
end
end Go.Proofs.YtaolbfbnjbpljaaDoor
