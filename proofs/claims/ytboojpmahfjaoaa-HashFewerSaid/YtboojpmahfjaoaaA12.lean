/- What holds when Build begins its loops. -/
import Derived.Test.YtboojpmahfjaoaaB3
import Derived.Deep.RegionHeld3
import Derived.Deep.Cut
import Derived.Deep.CutRange
namespace Go.Proofs.Ytboojpmahfjaoaa
open Go.RowKit
attribute [local go_sem] Ext.cell Ext.frozen

theorem make25 (n : Int) (m : Nat) (hm : n = m) (hb : m ≤ 1000000) (W : World) : (Instr.makeSlice 25 (.int .i64 n) (.int .i64 n)).run Try.prog W =
    .ok (.slice (some ⟨W.heap.size, 0, none⟩) m m) (W.alloc (.cells (madeCells #[.int .i64 0] m) 3)) := by
  obtain ⟨i0, hi, hz0, hz1, hz2⟩ := info_parts info3
  have h := run_make (P := Try.prog) W 25 3 i0 (.int .i64 0) Try.underlying25 hi hz0 .i64 .i64 n n (by omega) (Int.le_refl _) (by rw [hz2]; omega) (by omega)
  have e : n.toNat = m := by omega
  rw [e] at h
  simpa [hz1, Value.cells] using h

def BuildPost (keys : List ByteArray) (e : Ending) (w' : World) : Prop :=
  ∃ ad c, e = .returned (.tuple #[.agg #[.int .i64 (sizeB keys : Nat), .slice ad (seedsB keys).length c], .int .i64 (errB keys : Nat)]) ∧ Sl w' ad (seedsB keys).length (ints (seedsB keys))

/-- block S0 holds the seeds sd -/
def SeedAt (w : World) (S0 m : Nat) (sd : Nat → Nat) : Prop := ∀ b, b < m → w.cell? ⟨S0, b, none⟩ = some (.int .i64 (sd b : Nat)) ∧ w.frozen? ⟨S0, b, none⟩ = false

/-- the blocks of Build: the result R, the seeds S0, the table T5, the parts P0, their box PB, the map M -/
structure Start (w W0 : World) (n m R S0 T5 P0 PB M : Nat) : Prop where
  ord : R = w.heap.size ∧ R < S0 ∧ S0 < T5 ∧ T5 < P0 ∧ P0 < PB ∧ PB < M ∧ M + 1 = W0.heap.size
  bel : Below R w W0
  r0 : W0.heap[R]? = some (.cells #[.int .i64 0, .slice none 0 0] 27 (0, 0))
  seeds : SeedAt W0 S0 m (fun _ => 0)
  t5 : W0.heap[T5]? = some (.cells #[.int .i64 n, .slice (some ⟨S0, 0, none⟩) m m] 27 (0, 0))
  parts : Parts W0 (M + 1) P0 m (fun _ => .slice none 0 0) (fun _ => [])
  box : W0.heap[PB]? = some (.cells #[.slice (some ⟨P0, 0, none⟩) m m] 45 (0, 0))
  seen : SeenAt W0 M 0 []

theorem start_of (w : World) (n m : Nat) : Start w ((((((w.alloc (.cells #[.int .i64 0, .slice none 0 0] 27)).alloc (.cells (madeCells #[.int .i64 0] m) 3)).alloc (.cells #[.int .i64 n, .slice (some ⟨w.heap.size + 1, 0, none⟩) m m] 27)).alloc
    (.cells (madeCells #[.slice none 0 0] m) 22)).alloc (.cells #[.slice (some ⟨w.heap.size + 1 + 1 + 1, 0, none⟩) m m] 45)).alloc (.map #[] 0)) n m w.heap.size (w.heap.size + 1) (w.heap.size + 1 + 1) (w.heap.size + 1 + 1 + 1) (w.heap.size + 1 + 1 + 1 + 1) (w.heap.size + 1 + 1 + 1 + 1 + 1) := by
  refine ⟨⟨rfl, by omega, by omega, by omega, by omega, by omega, by simp⟩, ?_, ?_, ?_, ?_, ?_, ?_, ?_⟩
  · exact ((((((Below.refl _ w).alloc (Nat.le_refl _) _).alloc (by simp) _).alloc (by simp <;> omega) _).alloc (by simp <;> omega) _).alloc (by simp <;> omega) _).alloc (by simp <;> omega) _
  · rw [heap_alloc_old _ _ (by simp <;> omega), heap_alloc_old _ _ (by simp <;> omega), heap_alloc_old _ _ (by simp <;> omega), heap_alloc_old _ _ (by simp <;> omega), heap_alloc_old _ _ (by simp), heap_alloc_new]
  · intro b hb
    have h : ((((((w.alloc (.cells #[.int .i64 0, .slice none 0 0] 27)).alloc (.cells (madeCells #[.int .i64 0] m) 3)).alloc (.cells #[.int .i64 n, .slice (some ⟨w.heap.size + 1, 0, none⟩) m m] 27)).alloc
      (.cells (madeCells #[.slice none 0 0] m) 22)).alloc (.cells #[.slice (some ⟨w.heap.size + 1 + 1 + 1, 0, none⟩) m m] 45)).alloc (.map #[] 0)).heap[w.heap.size + 1]? = some (.cells (madeCells #[.int .i64 0] m) 3 (0, 0)) := by
      rw [heap_alloc_old _ _ (by simp <;> omega), heap_alloc_old _ _ (by simp <;> omega), heap_alloc_old _ _ (by simp <;> omega), heap_alloc_old _ _ (by simp)]
      have := heap_alloc_last (w.alloc (.cells #[.int .i64 0, .slice none 0 0] 27)) (.cells (madeCells #[.int .i64 0] m) 3)
      simpa using this
    exact ⟨by rw [cell_of_row _ _ _ _ _ _ h]; simp [madeCells, hb, Nat.mod_one], frozen_of_row _ _ _ _ _ h⟩
  · rw [heap_alloc_old _ _ (by simp <;> omega), heap_alloc_old _ _ (by simp <;> omega), heap_alloc_old _ _ (by simp)]
    exact heap3_new _ _ _ _
  · have h := Parts.new (((w.alloc (.cells #[.int .i64 0, .slice none 0 0] 27)).alloc (.cells (madeCells #[.int .i64 0] m) 3)).alloc (.cells #[.int .i64 n, .slice (some ⟨w.heap.size + 1, 0, none⟩) m m] 27)) m (w.heap.size + 1 + 1 + 1 + 1 + 1 + 1)
    have h2 := h.below ((((Below.refl _ _).alloc (Nat.le_refl _) (.cells #[.slice (some ⟨w.heap.size + 1 + 1 + 1, 0, none⟩) m m] 45)).alloc (by simp) (.map #[] 0)))
    simpa using h2
  · rw [heap_alloc_old _ _ (by simp)]
    have := heap4_new (w.alloc (.cells #[.int .i64 0, .slice none 0 0] 27)) (.cells (madeCells #[.int .i64 0] m) 3) (.cells #[.int .i64 n, .slice (some ⟨w.heap.size + 1, 0, none⟩) m m] 27) (.cells (madeCells #[.slice none 0 0] m) 22) (.cells #[.slice (some ⟨w.heap.size + 1 + 1 + 1, 0, none⟩) m m] 45)
    simpa using this
  · have := SeenAt.made (((((w.alloc (.cells #[.int .i64 0, .slice none 0 0] 27)).alloc (.cells (madeCells #[.int .i64 0] m) 3)).alloc (.cells #[.int .i64 n, .slice (some ⟨w.heap.size + 1, 0, none⟩) m m] 27)).alloc
      (.cells (madeCells #[.slice none 0 0] m) 22)).alloc (.cells #[.slice (some ⟨w.heap.size + 1 + 1 + 1, 0, none⟩) m m] 45))
    simpa using this

theorem own_num {w : World} {base D c m : Nat} {a : Nat → Nat} (h : w.ownsRow base 3 1 (.slice (some ⟨D, 0, none⟩) m c) m (ints ((List.range m).map (fun x : Nat => ((a x : Nat) : Int))))) : NumAt w D m a := by
  obtain ⟨h0, ⟨h1, h2⟩ | ⟨g, cap, cur, h1, h2, h3, h4, h5, h6, h7⟩⟩ := h
  · cases h1
  · injection h1 with e1 e2 e3
    injection e1 with e1
    injection e1 with e1
    subst e1
    intro i hi
    refine ⟨?_, frozen_of_row _ _ _ _ _ h3⟩
    rw [cell_of_row _ _ _ _ _ _ h3]
    have h8 := congrArg (fun l => l[i]?) h7
    simp only [ints, List.getElem?_map, List.getElem?_take, Array.getElem?_toList] at h8
    rw [if_pos (by omega)] at h8
    rw [h8]
    simp [hi]

/-- the sort of the buckets, the empty order too -/
theorem sort_all (ad : Option Addr) (c base PB P0 m : Nat) (L : Nat → List ByteArray) (w : World) (h : PBox w PB P0 m L) (hL : ∀ b, b < m → (L b).length ≤ 1000) (hm : m ≤ 19)
    (hown : w.ownsRow base 3 1 (.slice ad m c) m (ints ((List.range m).map (fun x : Nat => (x : Int))))) (h0 : m = 0 → ad = none ∧ c = 0) (hb1 : PB < base) (hb2 : P0 < base) :
    Calls Try.prog 22 #[.slice ad m c, .func (.func 23) #[] #[.pointer (some ⟨PB, 0, none⟩)]] w fun e w' => e = .returned (.tuple #[]) ∧
      (∃ a, Sl w' ad m (ints ((List.range m).map (fun x : Nat => ((a x : Nat) : Int)))) ∧ Ins.Out (fun b => (L b).length) m m a) ∧ Below base w w' := by
  by_cases hm0 : m = 0
  · subst hm0
    obtain ⟨rfl, rfl⟩ := h0 rfl
    refine (sort_nil _ w).mono ?_
    rintro e w' ⟨rfl, rfl⟩
    exact ⟨rfl, ⟨id, ⟨0, 0, rfl, by omega, fun h => absurd rfl h, fun i hi => absurd hi (Nat.not_lt_zero _)⟩, Ins.Out.start _ _⟩, Below.refl _ _⟩
  · have hsl := Own.sl hown
    obtain ⟨g, cap, hv, hg1, hg2⟩ := hown.form (by omega)
    injection hv with hv _ hcap
    subst hv
    subst hcap
    have hnum : NumAt w g m id := own_num (a := id) hown
    have hlt := hnum
    refine (sort_any g c PB P0 m L w h hnum hL hm (by omega) (by omega) (by omega) hg2).mono ?_
    rintro e w' ⟨rfl, ⟨a, hn, ho⟩, hgr⟩
    refine ⟨rfl, ⟨a, ⟨g, 0, by simp [ints], by omega, fun _ => rfl, fun i hi => ?_⟩, ho⟩, ⟨hgr.os, hgr.tape, hgr.output, hgr.size, ?_⟩⟩
    · rw [Nat.zero_add, (hn i hi).1]
      simp [ints, List.getD, hi]
    · intro k hk
      rcases Nat.lt_or_ge k w.heap.size with h' | h'
      · exact hgr.block k h' (fun e => by injection e with e; omega)
      · omega

theorem Parts.pbox {w : World} {base PB P0 m : Nat} {V : Nat → Value} {L : Nat → List ByteArray} (h : Parts w base P0 m V L) (hb : w.cell? ⟨PB, 0, none⟩ = some (.slice (some ⟨P0, 0, none⟩) m m)) : PBox w PB P0 m L :=
  ⟨hb, fun b hbm => by
    obtain ⟨ad, c, hv⟩ := own_form (h.own b hbm)
    exact ⟨ad, c, by rw [h.cell hbm, hv]⟩⟩

end Go.Proofs.Ytboojpmahfjaoaa
