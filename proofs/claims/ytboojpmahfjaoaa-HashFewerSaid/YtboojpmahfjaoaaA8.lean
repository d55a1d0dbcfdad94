/- Walks: trying a seed. -/
import Derived.Test.YtboojpmahfjaoaaA7
import Derived.Deep.WholeRow
import Derived.Laws.CopyOwn
namespace Go.Proofs.Ytboojpmahfjaoaa
open Go.RowKit
theorem info50 : (Try.prog.info? 50).map (fun i => (i.zero, i.size, i.bytes)) = some (some (.int .u64 0), 1, 8) := by kernel_rfl
theorem size52 : (Try.prog.info? 52).map (·.size) = some 16 := by kernel_rfl

theorem zeros_one : ∀ v ∈ (Array.replicate 16 (Value.int .u64 0)).toList, v.oneCell' = true := by
  intro v hv
  simp at hv
  subst hv
  rfl
theorem all_of_list {cs : Array Value} (h : ∀ v ∈ cs.toList, v.oneCell' = true) : cs.all (·.oneCell') = true :=
  Array.all_eq_true_iff_forall_mem.2 (fun v hv => h v (by simpa using hv))

theorem heap3_new (w : World) (A B C : Obj) : (((w.alloc A).alloc B).alloc C).heap[w.heap.size + 1 + 1]? = some C := by
  have := heap_alloc_last ((w.alloc A).alloc B) C
  simpa using this
theorem heap4_new (w : World) (A B C D : Obj) : ((((w.alloc A).alloc B).alloc C).alloc D).heap[w.heap.size + 1 + 1 + 1]? = some D := by
  have := heap_alloc_last (((w.alloc A).alloc B).alloc C) D
  simpa using this
theorem heap3_first (w : World) (A B C : Obj) : (((w.alloc A).alloc B).alloc C).heap[w.heap.size]? = some A := by
  rw [heap_alloc_old _ _ (by simp; omega), heap_alloc_old _ _ (by simp), heap_alloc_new]
theorem setRow4 (w : World) (A B C : Obj) (c c' : Array Value) (t : TypeId) : ((((w.alloc A).alloc B).alloc C).alloc (.cells c t)).setRow (w.heap.size + 1 + 1 + 1) c' = (((w.alloc A).alloc B).alloc C).alloc (.cells c' t) := by
  have := World.setRow_alloc_new (((w.alloc A).alloc B).alloc C) c c' t
  simpa using this
theorem clear_new (W : World) (B : Nat) (hB : B = W.heap.size) (ty : TypeId) : (Builtin.clear_ #[65] ty #[.slice (some ⟨B, 0, none⟩) 16 16]).run Try.prog (W.alloc (.cells (Array.replicate 16 (.int .u64 0)) 50)) =
    .ok (.tuple #[]) (W.alloc (.cells (Array.replicate 16 (.int .u64 0)) 50)) := by
  subst hB
  obtain ⟨i0, hi, hz0, hz1, hz2⟩ := info_parts info50
  have hz : (zeroValue 50).run Try.prog (W.alloc (.cells (Array.replicate 16 (.int .u64 0)) 50)) = .ok (.int .u64 0) (W.alloc (.cells (Array.replicate 16 (.int .u64 0)) 50)) := by
    simp [zeroValue, typeInfo, hi, hz0]
  have hst := run_storeCells_from (P := Try.prog) W.heap.size 50 (Array.replicate 16 (Value.int .u64 0)).toList 0 (Array.replicate 16 (Value.int .u64 0)) (W.alloc (.cells (Array.replicate 16 (.int .u64 0)) 50)) (heap_alloc_last W _) (by simp) zeros_one
  have hst' : (storeCells ⟨W.heap.size, 0, none⟩ (Array.replicate 16 (Value.int .u64 0)).toList 0).run Try.prog (W.alloc (.cells (Array.replicate 16 (.int .u64 0)) 50)) = .ok () (W.alloc (.cells (Array.replicate 16 (.int .u64 0)) 50)) := by
    rw [hst, World.setRow_alloc_new]; rfl
  have hzc : Builtin.zeroCells (Value.int .u64 0).cells 16 = Array.replicate 16 (Value.int .u64 0) := by kernel_rfl
  simp [Builtin.clear_, run_underlying Try.underlying65, hz, hzc]
  simp at hst'
  simp [hst']

theorem copy_new (w : World) (Z : Obj) (cs : Array Value) (hcs : cs.size = 16) (h1 : ∀ v ∈ cs.toList, v.oneCell' = true) (ty : TypeId) :
   (Builtin.copy_ #[65, 65] ty #[.slice (some ⟨w.heap.size + 1 + 1, 0, none⟩) 16 16, .slice (some ⟨w.heap.size, 0, none⟩) 16 16]).run Try.prog (((w.alloc (.cells cs 52)).alloc Z).alloc (.cells (Array.replicate 16 (.int .u64 0)) 50)) =
    .ok (goInt 16) (((w.alloc (.cells cs 52)).alloc Z).alloc (.cells cs 50)) := by
  have hS : (((w.alloc (.cells cs 52)).alloc Z).alloc (.cells (Array.replicate 16 (.int .u64 0)) 50)).heap[w.heap.size]? = some (.cells cs 52 (0, 0)) := by
    exact heap3_first _ _ _ _
  have hl := run_loadCells_list (P := Try.prog) (((w.alloc (.cells cs 52)).alloc Z).alloc (.cells (Array.replicate 16 (.int .u64 0)) 50)) ⟨w.heap.size, 0, none⟩ cs.toList (fun j v hv => by
    have hadd : (⟨w.heap.size, 0, none⟩ : Addr).add j = ⟨w.heap.size, j, none⟩ := by unfold Addr.add; split <;> simp_all
    rw [hadd, cell_of_row _ _ j cs 52 (0, 0) hS]
    simpa using hv)
  have hst := run_storeCells_from (P := Try.prog) (w.heap.size + 1 + 1) 50 cs.toList 0 (Array.replicate 16 (Value.int .u64 0)) (((w.alloc (.cells cs 52)).alloc Z).alloc (.cells (Array.replicate 16 (.int .u64 0)) 50))
    (by have := heap_alloc_last ((w.alloc (.cells cs 52)).alloc Z) (.cells (Array.replicate 16 (.int .u64 0)) 50); simpa using this) (by simp [hcs]) h1
  have hset : (((w.alloc (.cells cs 52)).alloc Z).alloc (.cells (Array.replicate 16 (.int .u64 0)) 50)).setRow (w.heap.size + 1 + 1) cs = ((w.alloc (.cells cs 52)).alloc Z).alloc (.cells cs 50) := by
    have := World.setRow_alloc_new ((w.alloc (.cells cs 52)).alloc Z) (Array.replicate 16 (.int .u64 0)) cs 50
    simpa using this
  simp only [List.take_zero, List.nil_append, Array.toArray_toList, hset] at hst
  simp only [Array.length_toList, hcs, Array.toArray_toList] at hl
  obtain ⟨i0, hi, hz0, hz1, hz2⟩ := info_parts info50
  simp [Builtin.copy_, run_underlying Try.underlying65, Builtin.lenOf, Builtin.firstCells, sizeOf, typeInfo, hi, hz1, hl, hst]


/-- a set of slots, as a value -/
def SetV (cs : Array Value) (f : Nat → Bool) : Prop :=
  cs.size = 16 ∧ ∃ wd : Nat → Nat, (∀ j, j < 16 → wd j < 18446744073709551616 ∧ cs[j]? = some (.int .u64 (wd j : Nat))) ∧ ∀ i, i < 1024 → (wd (i / 64)).testBit (i % 64) = f i

theorem SetV.one {cs : Array Value} {f : Nat → Bool} (h : SetV cs f) : ∀ v ∈ cs.toList, v.oneCell' = true := by
  obtain ⟨hs, wd, h1, _⟩ := h
  intro v hv
  obtain ⟨j, hj, rfl⟩ := List.getElem_of_mem hv
  have hj' : j < 16 := by simpa [hs] using hj
  have := (h1 j hj').2
  rw [Array.getElem?_eq_getElem (by omega)] at this
  injection this with this
  simp only [Array.getElem_toList, this]
  rfl

theorem SetV.at {w : World} {B : Nat} {T : TypeId} {cs : Array Value} {f : Nat → Bool} (h : SetV cs f) (hb : w.heap[B]? = some (.cells cs T (0, 0))) : SetAt w B f := by
  obtain ⟨hs, wd, h1, h2⟩ := h
  refine ⟨wd, fun j hj => ⟨(h1 j hj).1, ?_, frozen_of_row w B j cs T hb⟩, fun i hi => h2 i (by omega)⟩
  rw [cell_of_row w B j cs T (0, 0) hb]
  exact (h1 j hj).2

theorem SetV.congr {cs : Array Value} {f g : Nat → Bool} (h : SetV cs f) (hg : ∀ i, i < 1024 → f i = g i) : SetV cs g := by
  obtain ⟨hs, wd, h1, h2⟩ := h
  exact ⟨hs, wd, h1, fun i hi => (h2 i hi).trans (hg i hi)⟩

theorem SetV.zero : SetV (Array.replicate 16 (.int .u64 0)) (fun _ => false) :=
  ⟨by simp, fun _ => 0, fun j hj => ⟨by show 0 < _; omega, by simp [hj]⟩, fun i _ => by simp⟩

theorem set_add_row (B i : Nat) (cs : Array Value) (f : Nat → Bool) (w : World) (hb : w.heap[B]? = some (.cells cs 52 (0, 0))) (h : SetV cs f) (hi : i < 1000) (hf : f i = false) :
    Calls Try.prog 31 #[.pointer (some ⟨B, 0, none⟩), .int .i64 i] w fun e w' => e = .returned (.bool true) ∧ (∃ cs', w'.heap[B]? = some (.cells cs' 52 (0, 0)) ∧ SetV cs' (plus f i)) ∧ w.grownBy w' (some B) := by
  obtain ⟨wd, ha1, ha2⟩ := h.at hb
  obtain ⟨hs, wd', h1, h2⟩ := h
  have hww : ∀ j, j < 16 → wd j = wd' j := fun j hj => by
    have e1 := (ha1 j hj).2.1
    rw [cell_of_row w B j cs 52 (0, 0) hb, (h1 j hj).2] at e1
    injection e1 with e1
    injection e1 with _ e1
    omega
  obtain ⟨a, b, c⟩ := ha1 (i / 64) (by omega)
  refine (add_yes B i _ w hi b c a ((ha2 i hi).trans hf)).mono ?_
  rintro e w' ⟨he, n, rfl⟩
  have hq : i / 64 < 16 := by omega
  generalize hy : wd (i / 64) ||| 2 ^ (i % 64) = y
  have hy64 : y < 18446744073709551616 := by
    have h64 : wd (i / 64) < 2 ^ 64 := by simpa using a
    have hp : 2 ^ (i % 64) < 2 ^ 64 := Nat.pow_lt_pow_right (by omega) (by omega)
    have := Nat.or_lt_two_pow h64 hp
    rw [hy] at this
    simpa using this
  refine ⟨he, ⟨cs.setIfInBounds (i / 64) (.int .u64 (y : Nat)), ?_, by simp [hs], fun j => if j = i / 64 then y else wd' j, fun j hj => ?_, fun k hk => ?_⟩, ?_⟩
  · exact heap_setCell_same w B (i / 64) cs 52 _ hb
  · by_cases hji : j = i / 64
    · subst hji
      simp only [if_true]
      exact ⟨hy64, by simp [hs, hq]⟩
    · simp only [hji, if_false]
      refine ⟨(h1 j hj).1, ?_⟩
      rw [Array.getElem?_setIfInBounds, if_neg (fun e => hji e.symm)]
      exact (h1 j hj).2
  · unfold plus
    rw [← h2 k hk]
    by_cases hq' : k / 64 = i / 64
    · simp only [hq', if_true]
      rw [← hy, hww _ hq, Nat.testBit_or, Nat.testBit_two_pow]
      congr 1
      rw [decide_eq_decide]
      omega
    · simp only [hq', if_false]
      have : k ≠ i := fun e => hq' (by rw [e])
      simp [this]
  · exact ⟨rfl, rfl, rfl, by simp, fun k hk hne => Below.heap_setCell w _ _ k (fun e => hne (by rw [e]))⟩

theorem SetV.unique {cs cs' : Array Value} {f : Nat → Bool} (h : SetV cs f) (h' : SetV cs' f) : cs = cs' := by
  obtain ⟨hs, wd, h1, h2⟩ := h
  obtain ⟨hs', wd', h1', h2'⟩ := h'
  apply Array.ext_getElem?
  intro j
  rcases Nat.lt_or_ge j 16 with hj | hj
  · have : wd j = wd' j := by
      apply Nat.eq_of_testBit_eq
      intro t
      rcases Nat.lt_or_ge t 64 with ht | ht
      · have a1 := h2 (64 * j + t) (by omega)
        have a2 := h2' (64 * j + t) (by omega)
        rw [show (64 * j + t) / 64 = j by omega, show (64 * j + t) % 64 = t by omega] at a1 a2
        rw [a1, a2]
      · have big : ∀ x : Nat, x < 18446744073709551616 → x.testBit t = false := fun x hx => by
          apply Nat.testBit_lt_two_pow
          have h3 : 2 ^ 64 ≤ 2 ^ t := Nat.pow_le_pow_right (by omega) ht
          have h4 : x < 2 ^ 64 := by simpa using hx
          omega
        rw [big _ (h1 j hj).1, big _ (h1' j hj).1]
    rw [(h1 j hj).2, (h1' j hj).2, this]
  · rw [Array.getElem?_eq_none (by omega), Array.getElem?_eq_none (by omega)]

theorem word_of (b : Nat → Bool) : ∀ n, ∃ x : Nat, x < 2 ^ n ∧ ∀ t, t < n → x.testBit t = b t
  | 0 => ⟨0, by simp, fun t h => by omega⟩
  | n + 1 => by
    obtain ⟨x, h1, h2⟩ := word_of b n
    cases hb : b n with
    | false =>
      refine ⟨x, by rw [Nat.pow_succ]; omega, fun t ht => ?_⟩
      rcases Nat.lt_or_eq_of_le (Nat.lt_succ_iff.1 ht) with h | h
      · exact h2 t h
      · subst h; rw [hb]; exact Nat.testBit_lt_two_pow h1
    | true =>
      refine ⟨2 ^ n + x, by rw [Nat.pow_succ]; omega, fun t ht => ?_⟩
      rcases Nat.lt_or_eq_of_le (Nat.lt_succ_iff.1 ht) with h | h
      · rw [Nat.testBit_two_pow_add_gt h]; exact h2 t h
      · subst h; rw [Nat.testBit_two_pow_add_eq, Nat.testBit_lt_two_pow h1, hb]; rfl

theorem SetV.exist (f : Nat → Bool) : ∃ cs, SetV cs f := by
  have h : ∀ j, ∃ x : Nat, x < 2 ^ 64 ∧ ∀ t, t < 64 → x.testBit t = f (64 * j + t) := fun j => word_of (fun t => f (64 * j + t)) 64
  have hw := fun j => (h j).choose_spec
  generalize (fun j => (h j).choose) = wd at *
  refine ⟨(List.range 16).toArray.map (fun j => .int .u64 ((h j).choose : Nat)), by simp, fun j => (h j).choose, fun j hj => ⟨?_, by simp [hj]⟩, fun i hi => ?_⟩
  · have := (hw j).1
    simpa using this
  · rw [(hw (i / 64)).2 (i % 64) (by omega)]
    congr 1
    omega

/-- the first k slots are free and different -/
def fitK (f : Nat → Bool) (sl : List Nat) : Nat → Bool
  | 0 => true
  | k + 1 => fitK f sl k && (!f (sl.getD k 0) && !((sl.take k).any (· == sl.getD k 0)))
theorem fitK_false {f : Nat → Bool} {sl : List Nat} {k n : Nat} (h : fitK f sl k = false) (hk : k ≤ n) : fitK f sl n = false := by
  induction n with
  | zero => obtain rfl : k = 0 := by omega
            exact h
  | succ n ih =>
    rcases Nat.lt_or_eq_of_le hk with h1 | h1
    · simp [fitK, ih (by omega)]
    · subst h1; exact h
/-- a set with some numbers more -/
def addAll (f : Nat → Bool) (sl : List Nat) : Nat → Bool := fun j => f j || sl.any (· == j)
def slots (ks : List ByteArray) (seed : Int) (N : Nat) : List Nat := ks.map fun s => hval s seed N

theorem run_results24 (tmps : Array Value) (w : World) (g : Nat) (cs : Array Value) (b : Bool) (h8 : tmps.getD 8 undef = .pointer (some ⟨g, 0, none⟩)) (h9 : tmps.getD 9 undef = .bool b)
    (hb : w.heap[g]? = some (.cells cs 52 (0, 0))) (hcs : cs.size = 16) : (results Try.f24 tmps).run Try.prog w = .ok (.tuple #[.agg cs, .bool b]) w := by
  have hr := run_loadVar_row (P := Try.prog) w g 52 52 cs (0, 0) _ hb Try.underlying52 rfl (by rw [size52, hcs])
  simp only [Array.getD_eq_getD_getElem?] at h8 h9
  simp [results, Try.results24, asAddr, h8, h9, hr]

end Go.Proofs.Ytboojpmahfjaoaa
