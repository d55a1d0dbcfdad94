/- Walks: conditions, the program's parser: a relation. -/
import Derived.Test.YtmleeodfmmpdgaaGreatDoorQ19
import Derived.Test.YtmleeodfmmpdgaaGreatDoorQ12
import Derived.Test.YtmleeodfmmpdgaaGreatDoorQ13
namespace Go.Proofs.YtmleeodfmmpdgaaGreatDoor
open Go.RowKit
attribute [local go_sem] Ext.cell Ext.frozen
attribute [local go_sem ↓] Go.wp_at_zero Go.wp_at_succ

end Go.Proofs.YtmleeodfmmpdgaaGreatDoor
namespace Go.Proofs.YtmleeodfmmpdgaaGreatDoor
open Go.RowKit
def tyAt (w : World) (k : Nat) : Option TypeId :=
  match w.heap[k]? with
  | some (.cells _ T _) => some T
  | _ => none
def seeP (base : Nat) (ts : List TypeId) (w : World) (k : Nat) : Bool := decide (k < base) || !((tyAt w k).elim false fun T => ts.contains T)
def see (base : Nat) (ts : List TypeId) (w : World) : World := hide (seeP base ts w) w
theorem seeP_no {base : Nat} {ts : List TypeId} {w : World} {k : Nat} (h : seeP base ts w k = false) : base ≤ k ∧ ∃ T, tyAt w k = some T ∧ T ∈ ts := by
  unfold seeP at h
  rw [Bool.or_eq_false_iff, decide_eq_false_iff_not, Bool.not_eq_false'] at h
  refine ⟨by omega, ?_⟩
  cases ht : tyAt w k with
  | none => rw [ht] at h; exact absurd h.2 (by simp)
  | some T => rw [ht] at h; exact ⟨T, rfl, by simpa using h.2⟩
theorem seeP_of {base : Nat} {ts : List TypeId} {w : World} {k : Nat} {T : TypeId} (h1 : base ≤ k) (h2 : tyAt w k = some T) (h3 : T ∈ ts) : seeP base ts w k = false := by
  unfold seeP
  rw [Bool.or_eq_false_iff, decide_eq_false_iff_not, Bool.not_eq_false', h2]
  exact ⟨by omega, by simpa using h3⟩
theorem tyAt_cel {w : World} {b : Nat} {T : TypeId} {cs : List Value} (h : Cel w b T cs) : tyAt w b = some T := by
  unfold Cel at h
  simp [tyAt, h]
theorem tyAt_eq {w w' : World} {k : Nat} (h : w'.heap[k]? = w.heap[k]?) : tyAt w' k = tyAt w k := by
  unfold tyAt
  rw [h]
def KpT (base : Nat) (ts : List TypeId) (w w' : World) : Prop := ∀ k, base ≤ k → k < w.heap.size → ∀ T, tyAt w k = some T → T ∈ ts → w'.heap[k]? = w.heap[k]?
theorem KpT.le {base base' : Nat} {ts ts' : List TypeId} {w w' : World} (h : KpT base ts w w') (hb : base ≤ base') (ht : ∀ T, T ∈ ts' → T ∈ ts) : KpT base' ts' w w' :=
  fun k h1 h2 T h3 h4 => h k (by omega) h2 T h3 (ht T h4)
theorem lt_of_tyAt {w : World} {k : Nat} {T : TypeId} (h : tyAt w k = some T) : k < w.heap.size := by
  rcases Nat.lt_or_ge k w.heap.size with g | g
  · exact g
  · rw [tyAt, Array.getElem?_eq_none g] at h
    cases h
theorem Kp.kpt {P : Nat → Bool} {w w' : World} (h : Kp P w w') {base : Nat} {ts : List TypeId} (hP : ∀ k T, base ≤ k → P k = true → tyAt w k = some T → T ∉ ts) : KpT base ts w w' := fun k h1 h2 T h3 h4 =>
  h.block k h2 (by
    cases hp : P k with
    | false => rfl
    | true => exact absurd h4 (hP k T h1 hp h3))
theorem Kp.kptO {b : Nat} {w w' : World} (h : Kp (oneP b) w w') {T : TypeId} {cs : List Value} (hc : Cel w b T cs) {base : Nat} {ts : List TypeId} (hT : T ∉ ts) : KpT base ts w w' :=
  h.kpt fun k U _ hk ht => by
    have : k = b := of_decide_eq_true hk
    subst this
    rw [tyAt_cel hc] at ht
    injection ht with ht
    rwa [← ht]
theorem own_ty {w : World} {base sz : Nat} {E : TypeId} {v : Value} {n : Nat} {xs : List Value} (h : w.ownsRow base E sz v n xs) {k : Nat} (hk : v.ownBlock = some k) : tyAt w k = some E := by
  rcases h.2 with ⟨h2, _⟩ | ⟨g, cap, cur, h1, h2, h3, h4⟩
  · rw [h2] at hk; cases hk
  · rw [h1] at hk
    injection hk with hk
    have hk : g = k := hk
    subst hk
    simp [tyAt, h3]
theorem grown_kpt {w w' : World} {v : Value} (hg : w.grownBy w' v.ownBlock) {base sz : Nat} {E : TypeId} {n : Nat} {xs : List Value} (h : w.ownsRow base E sz v n xs) (base' : Nat) {ts : List TypeId} (hE : E ∉ ts) : KpT base' ts w w' := fun k _ h2 T h3 h4 =>
  hg.block k h2 (fun e => by
    have := own_ty h e.symm
    rw [h3] at this
    injection this with this
    exact hE (this ▸ h4))
theorem see_sub {base : Nat} {ts : List TypeId} {w w' : World} (h : KpT base ts w w') : Sub (see base ts w) (see base ts w') := fun p v hv => by
  obtain ⟨h1, h2⟩ := hide_cell hv
  obtain ⟨hb, T, ht, hm⟩ := seeP_no h1
  have e := h _ hb (lt_of_tyAt ht) T ht hm
  have hn := seeP_of (w := w') hb ((tyAt_eq e).trans ht) hm
  show (hide (seeP base ts w') w').cell? p = some v
  rw [World.cell?_of_block (hide_not hn), World.cell?_of_block e]
  exact h2
theorem see_le {base base' : Nat} {ts ts' : List TypeId} (w : World) (hb : base' ≤ base) (ht : ∀ T, T ∈ ts → T ∈ ts') : Sub (see base ts w) (see base' ts' w) := fun p v hv => by
  obtain ⟨h1, h2⟩ := hide_cell hv
  obtain ⟨hb', T, h3, hm⟩ := seeP_no h1
  have hn := seeP_of (base := base') (ts := ts') (w := w) (by omega) h3 (ht T hm)
  show (hide (seeP base' ts' w) w).cell? p = some v
  rw [World.cell?_of_block (hide_not hn)]
  exact h2
theorem see_all (base : Nat) (ts : List TypeId) (w : World) : Sub (see base ts w) w := sub_hide _ _
theorem own_see {w : World} {base sz : Nat} {E : TypeId} {v : Value} {n : Nat} {xs : List Value} (h : w.ownsRow base E sz v n xs) {ts : List TypeId} (hE : E ∈ ts) : (see base ts w).ownsRow base E sz v n xs := by
  refine ⟨h.1, ?_⟩
  rcases h.2 with h2 | ⟨g, cap, cur, h1, h2, h3, h4⟩
  · exact .inl h2
  · refine .inr ⟨g, cap, cur, h1, h2, ?_, h4⟩
    have ht : tyAt w g = some E := by simp [tyAt, h3]
    show (hide (seeP base ts w) w).heap[g]? = _
    rw [hide_not (seeP_of h2 ht hE)]
    exact h3
theorem own_kpt {w w' : World} {base sz : Nat} {E : TypeId} {v : Value} {n : Nat} {xs : List Value} (h : w.ownsRow base E sz v n xs) {ts : List TypeId} (hE : E ∈ ts) (k : KpT base ts w w') : w'.ownsRow base E sz v n xs := by
  refine ⟨h.1, ?_⟩
  rcases h.2 with h2 | ⟨g, cap, cur, h1, h2, h3, h4⟩
  · exact .inl h2
  · have ht : tyAt w g = some E := by simp [tyAt, h3]
    exact .inr ⟨g, cap, cur, h1, h2, (k g h2 (lt_of_tyAt ht) E ht hE).trans h3, h4⟩
section
variable {α : Type} {E : TypeId} {k : Nat} {C : World → (Nat → Value) → α → Prop} {base : Nat} {ts : List TypeId} {w w' : World} {v v' : Value} {l : List α}
def Grow (E : TypeId) (k : Nat) (C : World → (Nat → Value) → α → Prop) (base : Nat) (ts : List TypeId) (w : World) (v : Value) (l : List α) : Prop :=
  ∃ f : Nat → Nat → Value, w.ownsRow base E k v l.length (flat k f l.length) ∧ ∀ i x, l[i]? = some x → C (see base ts w) (f i) x
theorem Grow.nil (E : TypeId) (k : Nat) (C : World → (Nat → Value) → α → Prop) (base : Nat) (ts : List TypeId) (w : World) : Grow E k C base ts w (.slice none 0 0) [] :=
  ⟨fun _ _ => undef, ⟨by simp [flat], .inl ⟨rfl, rfl⟩⟩, fun i x h => by simp at h⟩
theorem Grow.shape (h : Grow E k C base ts w v l) : ∃ ad c, v = .slice ad l.length c := by
  obtain ⟨f, h, _⟩ := h
  exact own_shape h
theorem Grow.keep (h : Grow E k C base ts w v l) (hC : ∀ a b x y, Sub a b → C a x y → C b x y) (hk : KpT base (E :: ts) w w') : Grow E k C base ts w' v l := by
  obtain ⟨f, h1, h2⟩ := h
  exact ⟨f, own_kpt h1 List.mem_cons_self hk, fun i x hx => hC _ _ _ _ (see_sub (hk.le (Nat.le_refl _) fun T hT => List.mem_cons_of_mem _ hT)) (h2 i x hx)⟩
theorem Grow.rows (h : Grow E k C base ts w v l) (hC : ∀ a b x y, Sub a b → C a x y → C b x y) (hl : l.length ≤ 140737488351232) : RowsOf k C (see base (E :: ts) w) v l := by
  obtain ⟨f, h1, h2⟩ := h
  obtain ⟨ad, c, rfl⟩ := own_shape h1
  obtain ⟨b, g1, g2, g3, _⟩ := own_rw (own_see h1 (ts := E :: ts) List.mem_cons_self)
  exact ⟨ad, c, f, b, 0, rfl, g1, g2, g3, hl, fun i x hx => hC _ _ _ _ (see_le w (Nat.le_refl _) fun T hT => List.mem_cons_of_mem _ hT) (h2 i x hx)⟩
theorem Grow.snoc {f : Nat → Nat → Value} (h : ∀ i x, l[i]? = some x → C (see base ts w) (f i) x) (hC : ∀ a b x y, Sub a b → C a x y → C b x y) (hs : KpT base ts w w') (g : Nat → Nat → Value)
    (ho : w'.ownsRow base E k v' (l.length + 1) (flat k f l.length ++ flat k g 1)) {x : α} (hx : C (see base ts w) (g 0) x) : Grow E k C base ts w' v' (l ++ [x]) := by
  have hlen : (l ++ [x]).length = l.length + 1 := by simp
  refine ⟨fun i j => if i < l.length then f i j else g (i - l.length) j, ?_, fun i y hy => ?_⟩
  · rw [hlen, ← flat_append]
    exact ho
  · rcases Nat.lt_or_ge i l.length with hi | hi
    · rw [List.getElem?_append_left hi] at hy
      have := hC _ _ _ _ (see_sub hs) (h i y hy)
      simpa only [hi, if_true] using this
    · rw [List.getElem?_append_right hi] at hy
      obtain e0 : i - l.length = 0 := by
        rcases Nat.eq_zero_or_pos (i - l.length) with e | e
        · exact e
        · rw [List.getElem?_eq_none (by simp; omega)] at hy
          cases hy
      rw [e0] at hy
      simp only [List.getElem?_cons_zero, Option.some.injEq] at hy
      subst hy
      have := hC _ _ _ _ (see_sub hs) hx
      simpa only [Nat.not_lt.2 hi, if_false, e0] using this
end
def andB : List UInt8 := [97, 110, 100]
def orB : List UInt8 := [111, 114]
def CP.conj (s : List UInt8) : Nat → List Rel → CP → List Rel × CP
  | 0, l, p => (l, p)
  | n + 1, l, p =>
    if p.err = 0 then
      (if (CP.next s andB (CP.relation s p).2).1 then CP.conj s n (l ++ [(CP.relation s p).1]) (CP.next s andB (CP.relation s p).2).2
       else (l ++ [(CP.relation s p).1], (CP.next s andB (CP.relation s p).2).2))
    else (l, p)
def CP.disj (s : List UInt8) : Nat → List (List Rel) → CP → List (List Rel) × CP
  | 0, l, p => (l, p)
  | n + 1, l, p =>
    if p.err = 0 then
      (if (CP.next s orB (CP.conj s 8 [] p).2).1 then CP.disj s n (l ++ [(CP.conj s 8 [] p).1]) (CP.next s orB (CP.conj s 8 [] p).2).2
       else (l ++ [(CP.conj s 8 [] p).1], (CP.next s orB (CP.conj s 8 [] p).2).2))
    else (l, p)
def condParse (s : List UInt8) : List (List Rel) × Int × Int :=
  let d := CP.disj s 8 [] ⟨0, 0, 0⟩
  let q := d.2.skip s
  let q2 := if q.pos < s.length then q.fail 3 else q
  if q2.err = 0 then (d.1, 0, 0) else ([], (q2.pos : Int), q2.err)
theorem rw_lit (w : World) (cs : Array Value) (T : TypeId) (k : Nat) (hk : cs.size = k) : Rw (w.alloc (.cells cs T)) (some ⟨w.heap.size, 0, none⟩) 1 k (fun _ j => cs.getD j undef) w.heap.size 0 :=
  ⟨by omega, fun _ => rfl, fun i j hi hj => by
    obtain rfl : i = 0 := by omega
    rw [Lib.cell_of_heap (heap_alloc_new w _)]
    simp only [Nat.zero_mul, Nat.zero_add]
    rw [Array.getD_eq_getD_getElem?, Array.getElem?_eq_getElem (by omega)]
    rfl⟩
end Go.Proofs.YtmleeodfmmpdgaaGreatDoor
namespace Go.Proofs.YtmleeodfmmpdgaaGreatDoor
open Go.RowKit
attribute [local go_sem] Ext.cell Ext.frozen
attribute [local go_sem ↓] Go.wp_at_zero Go.wp_at_succ
def RS.cond (E : Int) (r : RS) : List (List Rel) × RS :=
  if (r.peek E).1 = 2 then ((condParse (r.peek E).2.1).1, ((if (condParse (r.peek E).2.1).2.2 = 0 then r else r.fail E (condParse (r.peek E).2.1).2.2).text E).2) else ([], (r.text E).2)
theorem Rd.peek_len {w : World} {b : Nat} {E : Int} {r : RS} (h : Rd w b E r) : (r.peek E).2.1.length ≤ 200000 := by
  obtain ⟨_, _, _, _, _, _, _, _, _, h1⟩ := h
  unfold RS.peek
  cases hl : r.l with
  | nil => simp
  | cons t l => exact h1 t (by rw [hl]; exact List.mem_cons_self)
theorem tclasses_any (w : World) : Calls Tryz.prog 151 #[] w fun e w' => ∃ ad n c, e = .returned (.slice ad n c) ∧ Sl w' ad n (strs classL) ∧ Below w.heap.size w w' := by
  go_enter Tryz.func151, Tryz.ntmps151
  go_wp2_with fail
  go_ret
  exact ⟨_, _, _, rfl, sl_made w (strs classL) _ (by decide), (Below.refl _ _).alloc (Nat.le_refl _) _⟩
theorem Rd.other {w : World} {b : Nat} {E : Int} {r : RS} (h : Rd w b E r) {a : Addr} (ha : b < a.block) (v : Value) : Rd (w.setCell a v) b E r :=
  h.kp (P := oneP a.block) ((Kp.refl _ w).set (oneP_self _) v) (fun i hi => oneP_ne (by omega))
theorem kpt_set {w : World} {a : Addr} {T : TypeId} {cs : List Value} (h : Cel w a.block T cs) (base : Nat) {ts : List TypeId} (hT : T ∉ ts) (v : Value) : KpT base ts w (w.setCell a v) :=
  Kp.kptO (b := a.block) ((Kp.refl _ w).set (oneP_self _) v) h hT
def RS.rule (E : Int) (r : RS) : (ByteArray × List (List Rel)) × RS :=
  ((bs (r.one E classL).1, ((r.one E classL).2.cond E).1), ((r.one E classL).2.cond E).2.mark E [59])
theorem dec_toList (a b : ByteArray) : (a.toList == b.toList) = decide (a = b) := by
  rw [Bool.eq_iff_iff, beq_iff_eq, decide_eq_true_eq]
  constructor
  · intro h
    exact ByteArray.ext (by simpa [ByteArray.toList_eq] using h)
  · rintro rfl
    rfl
set_option maxRecDepth 20000 in
set_option maxHeartbeats 4000000 in
theorem key_Rule (a0 : ByteArray) (a1 : Option Addr) (a2 a3 : Nat) (w : World) : Calls Tryz.prog 148 #[.agg #[.string a0, .slice a1 a2 a3]] w fun e w' => e = .returned (.string a0) ∧ Below w.heap.size w w' := by
  go_enter Tryz.func148, Tryz.ntmps148
  go_wp2_with fail
  go_ret
  exact ⟨rfl, Bel.alloc (Bel.refl w) _⟩
set_option maxRecDepth 20000 in
set_option maxHeartbeats 4000000 in
theorem key_Lp (a0 a1 a2 a3 a4 : ByteArray) (w : World) : Calls Tryz.prog 154 #[.agg #[.string a0, .string a1, .string a2, .string a3, .string a4]] w fun e w' => e = .returned (.string a0) ∧ Below w.heap.size w w' := by
  go_enter Tryz.func154, Tryz.ntmps154
  go_wp2_with fail
  go_ret
  exact ⟨rfl, Bel.alloc (Bel.refl w) _⟩
set_option maxRecDepth 20000 in
set_option maxHeartbeats 4000000 in
theorem key_Dp (a0 a1 : ByteArray) (w : World) : Calls Tryz.prog 158 #[.agg #[.string a0, .string a1]] w fun e w' => e = .returned (.string a0) ∧ Below w.heap.size w w' := by
  go_enter Tryz.func158, Tryz.ntmps158
  go_wp2_with fail
  go_ret
  exact ⟨rfl, Bel.alloc (Bel.refl w) _⟩
end Go.Proofs.YtmleeodfmmpdgaaGreatDoor
