/- Rows of structs of the call's own: what they hold, and one row behind another; whatever the struct. -/
import Derived.Test.YtkodnagneblgaaaT1
import Derived.Test.YtkodnagneblgaaaUR
import Derived.Laws.AppendOwn
import Derived.Laws.AppendOwnNone
import Derived.Deep.AppendLies
namespace Go.Proofs.Ytkodnagneblgaaa
open Go.RowKit

/-- the cells of n structs of sz cells each -/
def flat (sz : Nat) (f : Nat → Nat → Value) (n : Nat) : List Value := (List.range n).flatMap fun i => (List.range sz).map (f i)
theorem flat_succ (sz : Nat) (f : Nat → Nat → Value) (n : Nat) : flat sz f (n + 1) = flat sz f n ++ (List.range sz).map (f n) := by simp [flat, List.range_succ]
theorem flat_length (sz : Nat) (f : Nat → Nat → Value) : ∀ n, (flat sz f n).length = n * sz
  | 0 => by simp [flat]
  | n + 1 => by rw [flat_succ, List.length_append, flat_length sz f n, List.length_map, List.length_range, Nat.succ_mul]
theorem flat_get (sz : Nat) (f : Nat → Nat → Value) : ∀ {n i j : Nat}, i < n → j < sz → (flat sz f n)[i * sz + j]? = some (f i j)
  | 0, _, _, hi, _ => absurd hi (Nat.not_lt_zero _)
  | n + 1, i, j, hi, hj => by
    rw [flat_succ]
    by_cases h : i < n
    · have : i * sz + j < (flat sz f n).length := by
        rw [flat_length]
        have := Nat.mul_le_mul_right sz (show i + 1 ≤ n by omega)
        rw [Nat.succ_mul] at this
        omega
      rw [List.getElem?_append_left this]
      exact flat_get sz f h hj
    · obtain rfl : i = n := by omega
      rw [List.getElem?_append_right (by rw [flat_length]; omega), flat_length, Nat.add_sub_cancel_left]
      simp [hj]
theorem flat_mem {sz : Nat} {f : Nat → Nat → Value} {n : Nat} {u : Value} (h : u ∈ flat sz f n) : ∃ i j, i < n ∧ j < sz ∧ u = f i j := by
  obtain ⟨i, hi, hu⟩ := List.mem_flatMap.1 h
  obtain ⟨j, hj, e⟩ := List.mem_map.1 hu
  exact ⟨i, j, List.mem_range.1 hi, List.mem_range.1 hj, e.symm⟩
theorem flat_get_inv {sz : Nat} {f : Nat → Nat → Value} {n q : Nat} {u : Value} (hs : 0 < sz) (h : (flat sz f n)[q]? = some u) : ∃ i j, q = i * sz + j ∧ i < n ∧ j < sz ∧ u = f i j := by
  have hq : q < n * sz := by rw [← flat_length sz f n]; exact (List.getElem?_eq_some_iff.1 h).1
  have h1 : q / sz < n := by rw [Nat.div_lt_iff_lt_mul hs]; exact hq
  have h2 : q % sz < sz := Nat.mod_lt _ hs
  have h3 : q = q / sz * sz + q % sz := by rw [Nat.mul_comm]; exact (Nat.div_add_mod q sz).symm
  refine ⟨q / sz, q % sz, h3, h1, h2, ?_⟩
  rw [h3, flat_get sz f h1 h2] at h
  injection h with h
  rw [← h]
theorem flat_append (sz : Nat) (f g : Nat → Nat → Value) (k n : Nat) : flat sz f k ++ flat sz g n = flat sz (fun i j => if i < k then f i j else g (i - k) j) (k + n) := by
  have h1 : flat sz f k = flat sz (fun i j => if i < k then f i j else g (i - k) j) k := by
    unfold flat
    refine congrArg List.flatten (List.map_congr_left fun i hi => List.map_congr_left fun j _ => ?_)
    show f i j = if i < k then f i j else g (i - k) j
    rw [if_pos (List.mem_range.1 hi)]
  induction n with
  | zero => simpa [flat] using h1
  | succ n ih =>
    rw [flat_succ, ← List.append_assoc, ih, ← Nat.add_assoc, flat_succ]
    congr 1
    refine List.map_congr_left fun j _ => ?_
    show g n j = if k + n < k then f (k + n) j else g (k + n - k) j
    rw [if_neg (by omega), Nat.add_sub_cancel_left]
theorem own_shape {w : World} {base : Nat} {E : TypeId} {size : Nat} {v : Value} {n : Nat} {xs : List Value} (h : w.ownsRow base E size v n xs) : ∃ ad c, v = .slice ad n c := by
  obtain ⟨_, ⟨rfl, rfl⟩ | ⟨g, cap, cur, rfl, _⟩⟩ := h
  · exact ⟨_, _, rfl⟩
  · exact ⟨_, _, rfl⟩
theorem own_below {w w' : World} {base sz : Nat} {E : TypeId} {v : Value} {n : Nat} {xs : List Value} (h : w.ownsRow base E sz v n xs) (hb : Below w.heap.size w w') : w'.ownsRow base E sz v n xs := by
  refine ⟨h.1, ?_⟩
  rcases h.2 with h2 | ⟨g, cap, cur, h1, h2, h3, h4⟩
  · exact .inl h2
  · have hg : g < w.heap.size := by
      rcases Nat.lt_or_ge g w.heap.size with h' | h'
      · exact h'
      · simp [Array.getElem?_eq_none h'] at h3
    exact .inr ⟨g, cap, cur, h1, h2, (hb.block g hg).trans h3, h4⟩
/-- a store into another block -/
theorem own_store {w : World} {base sz : Nat} {E : TypeId} {v : Value} {n : Nat} {xs : List Value} (h : w.ownsRow base E sz v n xs) {B j : Nat} (x : Value) (hB : B < base) : (w.setCell ⟨B, j, none⟩ x).ownsRow base E sz v n xs := by
  refine ⟨h.1, ?_⟩
  rcases h.2 with h2 | ⟨g, cap, cur, h1, h2, h3, h4⟩
  · exact .inl h2
  · have hne : B ≠ g := by omega
    exact .inr ⟨g, cap, cur, h1, h2, by simp [World.setCell, Array.getElem?_modify, h3, hne], h4⟩
theorem own_rebase {w : World} {base base' : Nat} {E : TypeId} {sz : Nat} {v : Value} {n : Nat} {xs : List Value} (h : w.ownsRow base E sz v n xs) (hb : base' ≤ base) : w.ownsRow base' E sz v n xs := by
  refine ⟨h.1, ?_⟩
  rcases h.2 with h2 | ⟨g, cap, cur, h1, h2, h3⟩
  · exact .inl h2
  · exact .inr ⟨g, cap, cur, h1, by omega, h3⟩
/-- what a row of the call's own holds -/
theorem own_rw {w : World} {base : Nat} {E : TypeId} {sz : Nat} {ad : Option Addr} {n c : Nat} {f : Nat → Nat → Value} (h : w.ownsRow base E sz (.slice ad n c) n (flat sz f n)) :
    ∃ b, Rw w ad n sz f b 0 ∧ (ad = none → c = 0) ∧ n ≤ c ∧ (n ≠ 0 → base ≤ b) := by
  obtain ⟨hl, ⟨h1, h2⟩ | ⟨g, cap, cur, h1, h2, h3, h4, h5, h6, h7⟩⟩ := h
  · subst h2
    injection h1 with e1 e2 e3
    subst e1 e3
    exact ⟨0, ⟨Nat.zero_le _, fun h => absurd rfl h, fun i j hi => absurd hi (Nat.not_lt_zero _)⟩, fun _ => rfl, Nat.le_refl _, fun h => absurd rfl h⟩
  · injection h1 with e1 e2 e3
    subst e1 e3
    refine ⟨g, ⟨by unfold maxLen at h5; omega, fun _ => rfl, fun i j hi hj => ?_⟩, (fun h => by cases h), h4, fun _ => h2⟩
    have hf := flat_get sz f hi hj
    have hlt : i * sz + j < n * sz := by
      have := (List.getElem?_eq_some_iff.1 hf).1
      rwa [flat_length] at this
    rw [← h7, List.getElem?_take, if_pos hlt, Array.getElem?_toList] at hf
    rw [Nat.zero_add]
    simp only [World.cell?, h3]
    simpa using hf
/-- a literal of one struct -/
theorem own_literal (w : World) (E : TypeId) (sz n : Nat) (cs : Array Value) (base : Nat) (hb : base ≤ w.heap.size) (hn : n ≤ maxLen) (hs : cs.size = n * sz) : (w.alloc (.cells cs E)).ownsRow base E sz (.slice (some ⟨w.heap.size, 0, none⟩) n n) n cs.toList :=
  ⟨by simpa using hs, .inr ⟨w.heap.size, n, cs, rfl, hb, heap_alloc_new w _, Nat.le_refl _, hn, hs, by rw [List.take_of_length_le (by simp [hs])]⟩⟩
section
variable {P : Program} {T E : TypeId} {z : Value} {sz bytes : Nat}
/-- one row behind another, which may be nil -/
theorem run_app_rows {w : World} (ty : TypeId) (hT : P.underlying T = some (.slice E)) (info : (P.info? E).map (fun i => (i.zero, i.size, i.bytes)) = some (some z, sz, bytes)) (hzs : z.cells.size = sz) (hsz : 0 < sz)
    (base : Nat) (ad : Option Addr) (k c : Nat) (ys : List Value) (hown : w.ownsRow base E sz (.slice ad k c) k ys) (ad2 : Option Addr) (n c2 : Nat) (f : Nat → Nat → Value) (b off : Nat)
    (hx : Rw w ad2 n sz f b off) (hc : ad2 = none → c2 = 0) (h1 : ∀ i j, i < n → j < sz → (f i j).oneCell' = true) (h63 : k + n ≤ maxLen) (hr : (k + n) * bytes ≤ 140737488355328) (hb : base ≤ w.heap.size) :
    ∃ ad' c' w', (Builtin.append_ #[T, T] ty #[.slice ad k c, .slice ad2 n c2]).run P w = .ok (.slice ad' (k + n) c') w' ∧
      w'.ownsRow base E sz (.slice ad' (k + n) c') (k + n) (ys ++ flat sz f n) ∧ w.grownBy w' (Value.ownBlock (.slice ad k c)) := by
  obtain ⟨i0, hi, hz0, hz1, hz2⟩ := info_parts info
  by_cases h0 : n = 0
  · subst h0
    cases ad2 with
    | none =>
      obtain rfl := hc rfl
      exact ⟨ad, c, w, run_append_owned_none w base T ty E i0 sz hT hi (.slice ad k c) k ys hown, by simpa [flat] using hown, World.grownBy.refl _ _⟩
    | some A2 =>
      obtain ⟨v', w', k1, k2, k3, k4⟩ := run_append_own (P := P) (w := w) base T ty E i0 z sz bytes hT hi hz0 hz1 hz2 hzs hsz (.slice ad k c) k ys hown A2 0 c2 [] (by simp) (fun j u h => by simp at h) (fun u h => by cases h) h63 hr hb
      obtain ⟨ad', c', rfl⟩ := own_shape k2
      exact ⟨ad', c', w', k1, by simpa [flat] using k2, k3⟩
  · have ha := hx.adr h0
    subst ha
    have news : ∀ q u, (flat sz f n)[q]? = some u → w.cell? ((⟨b, off, none⟩ : Addr).add q) = some u := by
      intro q u hu
      obtain ⟨i, j, rfl, hi, hj, rfl⟩ := flat_get_inv hsz hu
      have := hx.cell i j hi hj
      rw [Nat.add_assoc] at this
      unfold Addr.add
      split
      · rename_i h
        rw [h, Nat.add_zero] at this
        exact this
      · exact this
    obtain ⟨v', w', k1, k2, k3, k4⟩ := run_append_own (P := P) (w := w) base T ty E i0 z sz bytes hT hi hz0 hz1 hz2 hzs hsz (.slice ad k c) k ys hown ⟨b, off, none⟩ n c2 (flat sz f n)
      (flat_length _ _ _) news (fun u hu => by obtain ⟨i, j, hi, hj, rfl⟩ := flat_mem hu; exact h1 i j hi hj) h63 hr hb
    obtain ⟨ad', c', rfl⟩ := own_shape k2
    exact ⟨ad', c', w', k1, k2, k3⟩
/-- at an operation -/
theorem wp_app_rows {w : World} {o : Oper} {a : Act} {K : Act → World → Prop} {Q : Exit → Act → World → Prop} (s x : Operand) (ho : o.op = .call { callee := .builtin .append, args := #[s, x], argTypes := #[T, T] })
    (hT : P.underlying T = some (.slice E)) (info : (P.info? E).map (fun i => (i.zero, i.size, i.bytes)) = some (some z, sz, bytes)) (hzs : z.cells.size = sz) (hsz : 0 < sz)
    (base : Nat) (ad : Option Addr) (k c : Nat) (ys : List Value) (hs : a.eval s = .slice ad k c) (hown : w.ownsRow base E sz (.slice ad k c) k ys) (ad2 : Option Addr) (n c2 : Nat) (f : Nat → Nat → Value) (b off : Nat) (hxe : a.eval x = .slice ad2 n c2)
    (hx : Rw w ad2 n sz f b off) (hc : ad2 = none → c2 = 0) (h1 : ∀ i j, i < n → j < sz → (f i j).oneCell' = true) (h63 : k + n ≤ maxLen) (hr : (k + n) * bytes ≤ 140737488355328) (hb : base ≤ w.heap.size)
    (h : ∀ ad' c' w', w'.ownsRow base E sz (.slice ad' (k + n) c') (k + n) (ys ++ flat sz f n) → w.grownBy w' (Value.ownBlock (.slice ad k c)) → K (a.put o.dst (.slice ad' (k + n) c')) w') : o.wp P a w K Q := by
  obtain ⟨ad', c', w', g1, g2, g3⟩ := run_app_rows o.type hT info hzs hsz base ad k c ys hown ad2 n c2 f b off hx hc h1 h63 hr hb
  unfold Oper.wp execOp
  simp only [ho, resolve, invoke, builtin, Sem.run_bind, Sem.run_pure, Result.andThen_ok, List.map_toArray, List.map_cons, List.map_nil, hs, hxe, g1]
  exact h ad' c' w' g2 g3
/-- in a list of operations -/
theorem wpList_app_rows {w : World} {ops : Array Oper} {rest : List Oper} {o : Oper} {a : Act} {Q : Exit → Act → World → Prop} (hgd : o.guard = none) (s x : Operand) (ho : o.op = .call { callee := .builtin .append, args := #[s, x], argTypes := #[T, T] })
    (hT : P.underlying T = some (.slice E)) (info : (P.info? E).map (fun i => (i.zero, i.size, i.bytes)) = some (some z, sz, bytes)) (hzs : z.cells.size = sz) (hsz : 0 < sz)
    (base : Nat) (ad : Option Addr) (k c : Nat) (ys : List Value) (hs : a.eval s = .slice ad k c) (hown : w.ownsRow base E sz (.slice ad k c) k ys) (ad2 : Option Addr) (n c2 : Nat) (f : Nat → Nat → Value) (b off : Nat) (hxe : a.eval x = .slice ad2 n c2)
    (hx : Rw w ad2 n sz f b off) (hc : ad2 = none → c2 = 0) (h1 : ∀ i j, i < n → j < sz → (f i j).oneCell' = true) (h63 : k + n ≤ maxLen) (hr : (k + n) * bytes ≤ 140737488355328) (hb : base ≤ w.heap.size)
    (h : ∀ ad' c' w', w'.ownsRow base E sz (.slice ad' (k + n) c') (k + n) (ys ++ flat sz f n) → w.grownBy w' (Value.ownBlock (.slice ad k c)) → wpList P ops Q rest (a.put o.dst (.slice ad' (k + n) c')) w') : wpList P ops Q (o :: rest) a w :=
  wpList_plain hgd fun _ hK => wp_app_rows s x ho hT info hzs hsz base ad k c ys hs hown ad2 n c2 f b off hxe hx hc h1 h63 hr hb fun ad' c' w' h2 h3 => hK _ _ (h ad' c' w' h2 h3)
/-- at a step of a region that draws its order -/
theorem step_app_rows {w : World} {ops : Array Oper} {o : Oper} {a : Act} {K : Act → World → Prop} {Q : Exit → Act → World → Prop} {R : Prop} (hgd : o.guard = none) (s x : Operand) (ho : o.op = .call { callee := .builtin .append, args := #[s, x], argTypes := #[T, T] })
    (hT : P.underlying T = some (.slice E)) (info : (P.info? E).map (fun i => (i.zero, i.size, i.bytes)) = some (some z, sz, bytes)) (hzs : z.cells.size = sz) (hsz : 0 < sz)
    (base : Nat) (ad : Option Addr) (k c : Nat) (ys : List Value) (hs : a.eval s = .slice ad k c) (hown : w.ownsRow base E sz (.slice ad k c) k ys) (ad2 : Option Addr) (n c2 : Nat) (f : Nat → Nat → Value) (b off : Nat) (hxe : a.eval x = .slice ad2 n c2)
    (hx : Rw w ad2 n sz f b off) (hc : ad2 = none → c2 = 0) (h1 : ∀ i j, i < n → j < sz → (f i j).oneCell' = true) (h63 : k + n ≤ maxLen) (hr : (k + n) * bytes ≤ 140737488355328) (hb : base ≤ w.heap.size)
    (h : ∀ ad' c' w', w'.ownsRow base E sz (.slice ad' (k + n) c') (k + n) (ys ++ flat sz f n) → w.grownBy w' (Value.ownBlock (.slice ad k c)) → K (a.put o.dst (.slice ad' (k + n) c')) w') :
    if Region.wanted o (yielded ops a.tmps) = true then Oper.wp P o a w K Q else R := by
  have hw : Region.wanted o (yielded ops a.tmps) = true := by simp [Region.wanted, hgd]
  rw [if_pos hw]
  exact wp_app_rows s x ho hT info hzs hsz base ad k c ys hs hown ad2 n c2 f b off hxe hx hc h1 h63 hr hb h
end
end Go.Proofs.Ytkodnagneblgaaa
