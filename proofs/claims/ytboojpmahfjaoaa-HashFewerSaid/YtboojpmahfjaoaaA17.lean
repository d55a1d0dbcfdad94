/- Walks: the reference's Build. -/
import Derived.Test.YtboojpmahfjaoaaA16
namespace Go.Proofs.Ytboojpmahfjaoaa
open Go.RowKit
attribute [local go_sem] Ext.cell Ext.frozen

theorem info4 : (Try.prog.info? 4).map (fun i => (i.zero, i.size, i.bytes)) = some (some (.bool false), 1, 1) := by kernel_rfl
theorem make56 (m : Nat) (hb : m ≤ 1000000) (W : World) : (Instr.makeSlice 56 (.int .i64 (m : Nat)) (.int .i64 (m : Nat))).run Try.prog W =
    .ok (.slice (some ⟨W.heap.size, 0, none⟩) m m) (W.alloc (.cells (madeCells #[.bool false] m) 4)) := by
  obtain ⟨i0, hi, hz0, hz1, hz2⟩ := info_parts info4
  have h := run_make (P := Try.prog) W 56 4 i0 (.bool false) Try.underlying56 hi hz0 .i64 .i64 (m : Nat) (m : Nat) (by omega) (Int.le_refl _) (by rw [hz2]; omega) (by omega)
  simpa [hz1, Value.cells] using h

/-- block TB holds the Bools f -/
def BoolAt (w : World) (TB N : Nat) (f : Nat → Bool) : Prop := ∀ i, i < N → w.cell? ⟨TB, i, none⟩ = some (.bool (f i)) ∧ w.frozen? ⟨TB, i, none⟩ = false

theorem BoolAt.sl {w : World} {TB N : Nat} {f : Nat → Bool} (h : BoolAt w TB N f) (hN : N ≤ 1000) : Sl w (some ⟨TB, 0, none⟩) N (bools f N) :=
  ⟨TB, 0, by simp [bools], by omega, fun _ => rfl, fun i hi => by rw [Nat.zero_add, (h i hi).1, bools_getD f N i hi]⟩
theorem BoolAt.below {w w' : World} {TB N : Nat} {f : Nat → Bool} (h : BoolAt w TB N f) (hb : Below (TB + 1) w w') : BoolAt w' TB N f := fun i hi =>
  ⟨(hb.cell (p := ⟨TB, i, none⟩) (by show TB < _; omega)).trans (h i hi).1, (hb.frozen (p := ⟨TB, i, none⟩) (by show TB < _; omega)).trans (h i hi).2⟩
theorem BoolAt.set {w : World} {TB N : Nat} {f : Nat → Bool} (h : BoolAt w TB N f) {x : Nat} (hx : x < N) : BoolAt (w.setCell ⟨TB, x, none⟩ (.bool true)) TB N (plus f x) := by
  intro q hq
  refine ⟨?_, by simp [World.frozen?_setCell, (h q hq).2]⟩
  unfold plus
  by_cases e : q = x
  · subst e
    rw [World.cell?_setCell_same' _ _ _ (by rw [(h q hq).1]; rfl)]
    simp
  · rw [World.cell?_setCell_other _ _ _ _ (by simp), (h q hq).1]
    simp [e]
theorem BoolAt.congr {w : World} {TB N : Nat} {f g : Nat → Bool} (h : BoolAt w TB N f) (hg : ∀ i, f i = g i) : BoolAt w TB N g := fun i hi => by rw [← hg i]; exact h i hi
theorem SeedAt.other {w : World} {S0 m : Nat} {sd : Nat → Nat} (h : SeedAt w S0 m sd) {g i : Nat} {v : Value} (hg : g ≠ S0) : SeedAt (w.setCell ⟨g, i, none⟩ v) S0 m sd := fun q hq =>
  ⟨by rw [World.cell?_setCell_other _ _ _ _ (by simp)]; exact (h q hq).1, by simp [World.frozen?_setCell, (h q hq).2]⟩
theorem BoolAt.other {w : World} {TB N : Nat} {f : Nat → Bool} (h : BoolAt w TB N f) {g i : Nat} {v : Value} (hg : g ≠ TB) : BoolAt (w.setCell ⟨g, i, none⟩ v) TB N f := fun q hq =>
  ⟨by rw [World.cell?_setCell_other _ _ _ _ (by simp)]; exact (h q hq).1, by simp [World.frozen?_setCell, (h q hq).2]⟩

/-- the order, as far as the reference has come: size n - t, index b -/
def ordP (ln : Nat → Nat) (n m t b : Nat) : List Nat := ((List.range t).flatMap fun t => (List.range m).filter fun b => ln b == n - t) ++ (List.range b).filter fun b => ln b == n - t
theorem ordP_start (ln : Nat → Nat) (n m : Nat) : ordP ln n m 0 0 = [] := by simp [ordP]
theorem ordP_skip {ln : Nat → Nat} {n m t b : Nat} (h : ln b ≠ n - t) : ordP ln n m t (b + 1) = ordP ln n m t b := by
  simp [ordP, List.range_succ, List.filter_append, h]
theorem ordP_take {ln : Nat → Nat} {n m t b : Nat} (h : ln b = n - t) : ordP ln n m t (b + 1) = ordP ln n m t b ++ [b] := by
  simp [ordP, List.range_succ, List.filter_append, h]
theorem ordP_next (ln : Nat → Nat) (n m t : Nat) : ordP ln n m t m = ordP ln n m (t + 1) 0 := by
  simp [ordP, List.range_succ, List.flatMap_append]
theorem ordP_end (ln : Nat → Nat) (n m : Nat) : ordP ln n m n 0 = refOrd ln n m := by simp [ordP, refOrd]
theorem ordP_prefix {ln : Nat → Nat} {n m t b : Nat} (ht : t < n) (hb : b ≤ m) : ∃ r, refOrd ln n m = ordP ln n m t b ++ r := by
  refine ⟨(List.range' b (m - b)).filter (fun b => ln b == n - t) ++ (List.range' (t + 1) (n - (t + 1))).flatMap (fun t => (List.range m).filter fun b => ln b == n - t), ?_⟩
  have h1 : List.range n = List.range t ++ (t :: List.range' (t + 1) (n - (t + 1))) := by
    rw [List.range_eq_range', List.range_eq_range']
    have : List.range' 0 n = List.range' 0 t ++ List.range' t (n - t) := by
      have := List.range'_append_1 (s := 0) (m := t) (n := n - t)
      rw [Nat.zero_add] at this
      rw [this, show t + (n - t) = n by omega]
    rw [this]
    congr 1
    rw [show n - t = (n - (t + 1)) + 1 by omega, List.range'_succ]
  have h2 : List.range m = List.range b ++ List.range' b (m - b) := by
    rw [List.range_eq_range', List.range_eq_range']
    have := List.range'_append_1 (s := 0) (m := b) (n := m - b)
    rw [Nat.zero_add] at this
    rw [this, show b + (m - b) = m by omega]
  unfold refOrd ordP
  rw [h1, List.flatMap_append, List.flatMap_cons]
  rw [show (List.range m).filter (fun b => ln b == n - t) = (List.range b).filter (fun b => ln b == n - t) ++ (List.range' b (m - b)).filter (fun b => ln b == n - t) by
    conv => lhs; rw [h2]
    rw [List.filter_append]]
  simp only [List.append_assoc]
theorem procL_pre {N : Nat} {L : Nat → List ByteArray} {l r : List Nat} {f : Nat → Bool} {sd : Nat → Nat} (h : procL N L l f sd = none) : procL N L (l ++ r) f sd = none := by
  rw [procL_append, h]
  rfl
theorem addAll_snoc (f : Nat → Bool) (l : List Nat) (x : Nat) (i : Nat) : addAll f (l ++ [x]) i = plus (addAll f l) x i := by
  simp only [addAll, plus, List.any_append, List.any_cons, List.any_nil, Bool.or_false, Bool.or_assoc]
  congr 2
  rw [Bool.eq_iff_iff]
  simp
  omega

theorem memB_at {keys : List ByteArray} {k j : Nat} {x : ByteArray} (hj : j < k) (hk : k ≤ keys.length) (h : keys.getD j .empty = x) : memB x (keys.take k) = true := by
  rw [memB_iff]
  have h1 : j < (keys.take k).length := by rw [List.length_take]; omega
  have h2 : (keys.take k)[j] = x := by
    rw [List.getElem_take, ← h]
    simp [List.getD, List.getElem?_eq_getElem (show j < keys.length by omega)]
  rw [← h2]
  exact List.getElem_mem h1


/-- what does not change while the reference looks for the seeds -/
structure RMid (w : World) (n m R P0 S0 T7 TB : Nat) (L : Nat → List ByteArray) : Prop where
  ord : R < P0 ∧ P0 < S0 ∧ S0 < T7 ∧ T7 < TB ∧ TB < w.heap.size
  r0 : w.heap[R]? = some (.cells #[.int .i64 0, .slice none 0 0] 31 (0, 0))
  t7 : w.heap[T7]? = some (.cells #[.int .i64 n, .slice (some ⟨S0, 0, none⟩) m m] 31 (0, 0))
  part : ∀ b, b < m → ∃ ad c bb off, w.cell? ⟨P0, b, none⟩ = some (.slice ad (L b).length c) ∧ SlAt w ad (L b).length (strs (L b)) bb off ∧ bb ≠ TB ∧ bb ≠ S0

theorem RMid.chg {w w' : World} {n m R P0 S0 T7 TB : Nat} {L : Nat → List ByteArray} (h : RMid w n m R P0 S0 T7 TB L) (hc : Chg w w' [TB, S0]) : RMid w' n m R P0 S0 T7 TB L := by
  obtain ⟨o1, o2, o3, o4, o5⟩ := h.ord
  have hsz := hc.size
  refine ⟨⟨o1, o2, o3, o4, by omega⟩, (hc.block R (by omega) (by simp; omega)).trans h.r0, (hc.block T7 (by omega) (by simp; omega)).trans h.t7, fun b hb => ?_⟩
  obtain ⟨ad, c, bb, off, h1, h2, h3, h4⟩ := h.part b hb
  refine ⟨ad, c, bb, off, (hc.cell (by omega) (by simp; omega)).trans h1, ⟨h2.len, h2.max, h2.adr, fun i hi => ?_⟩, h3, h4⟩
  rw [hc.cell (h2.block (by omega)) (by simp [h3, h4])]
  exact h2.cell i hi

theorem BoolAt.new (w : World) (N : Nat) : BoolAt (w.alloc (.cells (madeCells #[.bool false] N) 4)) w.heap.size N (fun _ => false) := fun i hi => by
  have h := heap_alloc_last w (.cells (madeCells #[.bool false] N) 4)
  exact ⟨by rw [cell_of_row _ _ _ _ _ _ h]; simp [madeCells, hi, Nat.mod_one], frozen_of_row _ _ _ _ _ h⟩

structure RStart (w X0 : World) (n m R P0 S0 T7 TB : Nat) (L : Nat → List ByteArray) : Prop where
  mid : RMid X0 n m R P0 S0 T7 TB L
  bel : Below R w X0
  tk : BoolAt X0 TB n (fun _ => false)
  seeds : SeedAt X0 S0 m (fun _ => 0)
  sz : X0.heap.size = TB + 1

theorem rstart_of {w W1 w2 : World} {n m : Nat} {V : Nat → Value} {L : Nat → List ByteArray} (hb1 : Below w.heap.size w W1) (hz1 : W1.heap.size = w.heap.size + 1) (hr1 : W1.heap[w.heap.size]? = some (.cells #[.int .i64 0, .slice none 0 0] 31 (0, 0)))
    (hp : Parts w2 W1.heap.size W1.heap.size m V L) (hb2 : Below W1.heap.size W1 w2) :
    RStart w (((w2.alloc (.cells (madeCells #[.int .i64 0] m) 3)).alloc (.cells #[.int .i64 n, .slice (some ⟨w2.heap.size, 0, none⟩) m m] 31)).alloc (.cells (madeCells #[.bool false] n) 4)) n m w.heap.size W1.heap.size w2.heap.size (w2.heap.size + 1) (w2.heap.size + 1 + 1) L := by
  have hlt := hp.lt
  have hX : Below w2.heap.size w2 (((w2.alloc (.cells (madeCells #[.int .i64 0] m) 3)).alloc (.cells #[.int .i64 n, .slice (some ⟨w2.heap.size, 0, none⟩) m m] 31)).alloc (.cells (madeCells #[.bool false] n) 4)) :=
    ((((Below.refl _ w2).alloc (Nat.le_refl _) _).alloc (by simp) _).alloc (by simp <;> omega) _)
  refine ⟨⟨⟨by omega, hlt, by omega, by omega, by simp⟩, ?_, ?_, fun b hbm => ?_⟩, ?_, ?_, ?_, by simp⟩
  · exact (hX.block _ (by omega)).trans ((hb2.block _ (by omega)).trans hr1)
  · rw [heap_alloc_old _ _ (by simp)]
    have := heap_alloc_last (w2.alloc (.cells (madeCells #[.int .i64 0] m) 3)) (.cells #[.int .i64 n, .slice (some ⟨w2.heap.size, 0, none⟩) m m] 31)
    simpa using this
  · have hown := hp.own b hbm
    obtain ⟨ad, c, hv⟩ := own_form hown
    rw [hv] at hown
    obtain ⟨bb, off, hs⟩ := Own.sl hown
    by_cases hL : (L b).length = 0
    · refine ⟨ad, c, w2.heap.size + 3, 0, ?_, ⟨hs.len, hs.max, fun h => absurd hL h, fun i hi => by omega⟩, by omega, by omega⟩
      rw [hX.cell (p := ⟨W1.heap.size, b, none⟩) hlt, hp.cell hbm, hv]
    · have hblk := hs.block hL
      refine ⟨ad, c, bb, off, ?_, hs.below hX, by omega, by omega⟩
      rw [hX.cell (p := ⟨W1.heap.size, b, none⟩) hlt, hp.cell hbm, hv]
  · exact (hb1.trans (hb2.mono (by omega))).trans (hX.mono (by omega))
  · have := BoolAt.new ((w2.alloc (.cells (madeCells #[.int .i64 0] m) 3)).alloc (.cells #[.int .i64 n, .slice (some ⟨w2.heap.size, 0, none⟩) m m] 31)) n
    simpa using this
  · intro b hb
    have h : (((w2.alloc (.cells (madeCells #[.int .i64 0] m) 3)).alloc (.cells #[.int .i64 n, .slice (some ⟨w2.heap.size, 0, none⟩) m m] 31)).alloc (.cells (madeCells #[.bool false] n) 4)).heap[w2.heap.size]? = some (.cells (madeCells #[.int .i64 0] m) 3 (0, 0)) := by
      rw [heap_alloc_old _ _ (by simp <;> omega), heap_alloc_old _ _ (by simp)]
      exact heap_alloc_last _ _
    exact ⟨by rw [cell_of_row _ _ _ _ _ _ h]; simp [madeCells, hb, Nat.mod_one], frozen_of_row _ _ _ _ _ h⟩
end Go.Proofs.Ytboojpmahfjaoaa
