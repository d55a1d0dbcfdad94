/- Walks: the buckets of the reference. -/
import Derived.Test.YtboojpmahfjaoaaA6
import Derived.Deep.AppendLies
import Derived.Deep.RegionLaw
namespace Go.Proofs.Ytboojpmahfjaoaa
open Go.RowKit

def upd {α : Type} (f : Nat → α) (b : Nat) (x : α) : Nat → α := fun j => if j = b then x else f j

/-- a slice of m slices of strings, each a row of its own -/
structure Parts (w : World) (base P0 m : Nat) (V : Nat → Value) (L : Nat → List ByteArray) : Prop where
  row : ∃ cur : Array Value, w.heap[P0]? = some (.cells cur 22 (0, 0)) ∧ cur.size = m ∧ ∀ b, b < m → cur[b]? = some (V b)
  own : ∀ b, b < m → w.ownsRow base 9 1 (V b) (L b).length (strs (L b))
  sep : ∀ b b', b < m → b' < m → b ≠ b' → ∀ k, (V b).ownBlock = some k → (V b').ownBlock ≠ some k
  far : ∀ b, b < m → (V b).ownBlock ≠ some P0

theorem Parts.lt {w : World} {base P0 m : Nat} {V : Nat → Value} {L : Nat → List ByteArray} (h : Parts w base P0 m V L) : P0 < w.heap.size := by
  obtain ⟨cur, h1, _⟩ := h.row
  rcases Nat.lt_or_ge P0 w.heap.size with h' | h'
  · exact h'
  · simp [Array.getElem?_eq_none h'] at h1

theorem Parts.cell {w : World} {base P0 m : Nat} {V : Nat → Value} {L : Nat → List ByteArray} (h : Parts w base P0 m V L) {b : Nat} (hb : b < m) : w.cell? ⟨P0, b, none⟩ = some (V b) := by
  obtain ⟨cur, h1, _, h3⟩ := h.row
  simp [World.cell?, h1, h3 b hb]

theorem Parts.free {w : World} {base P0 m : Nat} {V : Nat → Value} {L : Nat → List ByteArray} (h : Parts w base P0 m V L) (b : Nat) : w.frozen? ⟨P0, b, none⟩ = false := by
  obtain ⟨cur, h1, _, h3⟩ := h.row
  simp [World.frozen?, h1]

theorem Parts.below {w w' : World} {base P0 m : Nat} {V : Nat → Value} {L : Nat → List ByteArray} (h : Parts w base P0 m V L) (hb : Below w.heap.size w w') : Parts w' base P0 m V L := by
  obtain ⟨cur, h1, h2, h3⟩ := h.row
  exact ⟨⟨cur, (hb.block _ h.lt).trans h1, h2, h3⟩, fun b hbm => Own.below (h.own b hbm) hb, h.sep, h.far⟩

theorem Parts.step {w w1 : World} {base P0 m : Nat} {V : Nat → Value} {L : Nat → List ByteArray} (h : Parts w base P0 m V L) {b : Nat} (hb : b < m) {s : ByteArray} {g c : Nat}
    (hg : w.grownBy w1 (V b).ownBlock) (hown : w1.ownsRow base 9 1 (.slice (some ⟨g, 0, none⟩) ((L b).length + 1) c) ((L b).length + 1) (strs (L b) ++ [.string s]))
    (hat : (V b).ownBlock = some g ∨ w.heap.size ≤ g) :
    Parts (w1.setCell ⟨P0, b, none⟩ (.slice (some ⟨g, 0, none⟩) ((L b).length + 1) c)) base P0 m (upd V b (.slice (some ⟨g, 0, none⟩) ((L b).length + 1) c)) (upd L b (L b ++ [s])) := by
  obtain ⟨cur, h1, h2, h3⟩ := h.row
  have hP := h.lt
  have hgP : g ≠ P0 := by
    rcases hat with hat | hat
    · intro e; subst e; exact h.far b hb hat
    · omega
  have hrow1 : w1.heap[P0]? = some (.cells cur 22 (0, 0)) := (hg.block P0 hP (fun e => h.far b hb e.symm)).trans h1
  have hoth : ∀ b', b' < m → b' ≠ b → w1.ownsRow base 9 1 (V b') (L b').length (strs (L b')) := fun b' hb' hne =>
    World.ownsRow.kept (h.own b' hb') hg (by
      rcases hV : (V b').ownBlock with _ | k
      · exact .inl rfl
      · exact .inr (fun e => h.sep b b' hb hb' (Ne.symm hne) k e.symm hV))
  have hset : ∀ (v : Value) (n : Nat) (xs : List Value), v.ownBlock ≠ some P0 → w1.ownsRow base 9 1 v n xs → (w1.setCell ⟨P0, b, none⟩ (.slice (some ⟨g, 0, none⟩) ((L b).length + 1) c)).ownsRow base 9 1 v n xs := by
    intro v n xs hv ho
    refine ⟨ho.1, ?_⟩
    rcases ho.2 with ho2 | ⟨g', cap, cur', e1, e2, e3, e4⟩
    · exact .inl ho2
    · refine .inr ⟨g', cap, cur', e1, e2, ?_, e4⟩
      rw [Below.heap_setCell _ _ _ _ (by rw [e1] at hv; simpa [Value.ownBlock] using hv)]
      exact e3
  refine ⟨⟨cur.setIfInBounds b (.slice (some ⟨g, 0, none⟩) ((L b).length + 1) c), ?_, by simpa using h2, fun b' hb' => ?_⟩, fun b' hb' => ?_, fun b1 b2 hb1 hb2 hne k hk hk2 => ?_, fun b' hb' => ?_⟩
  · have hlt : P0 < w1.heap.size := by have := hg.size; omega
    simp only [World.setCell, Array.getElem?_modify, if_true, hrow1]
    rfl
  · unfold upd
    rw [Array.getElem?_setIfInBounds]
    by_cases e : b' = b
    · subst e; simp; omega
    · rw [if_neg (fun e' => e e'.symm), if_neg e]; exact h3 b' hb'
  · unfold upd
    by_cases e : b' = b
    · subst e
      simp only [if_true]
      refine hset _ _ _ (by simpa [Value.ownBlock] using hgP) ?_
      simpa [strs] using hown
    · simp only [e, if_false]
      exact hset _ _ _ (h.far b' hb') (hoth b' hb' e)
  · unfold upd at hk hk2
    have old : ∀ b', b' < m → b' ≠ b → (V b').ownBlock ≠ some g := fun b' hb' hne' e => by
      rcases hat with hat | hat
      · exact h.sep b b' hb hb' (Ne.symm hne') g hat e
      · have := (World.ownsRow.lt (h.own b' hb') g e).2; omega
    by_cases e1 : b1 = b
    · have e2 : b2 ≠ b := fun e => hne (e1.trans e.symm)
      simp only [e1, e2, if_true, if_false, Value.ownBlock] at hk hk2
      injection hk with hk
      exact old b2 hb2 e2 (by rw [hk]; exact hk2)
    · by_cases e2 : b2 = b
      · simp only [e1, e2, if_true, if_false, Value.ownBlock] at hk hk2
        injection hk2 with hk2
        exact old b1 hb1 e1 (by rw [hk2]; exact hk)
      · simp only [e1, e2, if_false] at hk hk2
        exact h.sep b1 b2 hb1 hb2 hne k hk hk2
  · unfold upd
    by_cases e : b' = b
    · simp only [e, if_true, Value.ownBlock]
      intro e'; injection e' with e'; exact hgP e'
    · simp only [e, if_false]; exact h.far b' hb'

theorem Parts.new (w : World) (m base : Nat) : Parts (w.alloc (.cells (madeCells #[.slice none 0 0] m) 22)) base w.heap.size m (fun _ => .slice none 0 0) (fun _ => []) := by
  refine ⟨⟨madeCells #[.slice none 0 0] m, by simp [World.alloc, -World.alloc_eq], ?_, fun b hb => ?_⟩, fun b _ => World.ownsRow_nil _ _ _ _, fun b b' _ _ _ k hk => ?_, fun b _ => ?_⟩
  · simp [madeCells]
  · simp [madeCells, hb, Nat.mod_one]
  · simp [Value.ownBlock] at hk
  · simp [Value.ownBlock]

theorem info22 : (Try.prog.info? 22).map (fun i => (i.zero, i.size, i.bytes)) = some (some (.slice none 0 0), 1, 24) := by kernel_rfl
theorem info9 : (Try.prog.info? 9).map (fun i => (i.zero, i.size, i.bytes)) = some (some (.string .empty), 1, 16) := by kernel_rfl
theorem cells22 : Try.prog.cellsOf 22 = 1 := by kernel_rfl

theorem make45 (n : Int) (m : Nat) (hm : n = m) (hb : m ≤ 1000000) (W : World) : (Instr.makeSlice 45 (.int .i64 n) (.int .i64 n)).run Try.prog W =
    .ok (.slice (some ⟨W.heap.size, 0, none⟩) m m) (W.alloc (.cells (madeCells #[.slice none 0 0] m) 22)) := by
  obtain ⟨i0, hi, hz0, hz1, hz2⟩ := info_parts info22
  have h := run_make (P := Try.prog) W 45 22 i0 (.slice none 0 0) Try.underlying45 hi hz0 .i64 .i64 n n (by omega) (Int.le_refl _) (by rw [hz2]; omega) (by omega)
  have e : n.toNat = m := by omega
  rw [e] at h
  simpa [hz1, Value.cells] using h

/-- the keys of bucket b, of the first k -/
def bucket (keys : List ByteArray) (m : Nat) (b : Nat) : List ByteArray := keys.filter (fun s => hval s 0 m == b)
theorem bucket_snoc (keys : List ByteArray) (m k : Nat) (hk : k < keys.length) : bucket (keys.take (k + 1)) m =
    upd (bucket (keys.take k) m) (hval (keys.getD k .empty) 0 m) (bucket (keys.take k) m (hval (keys.getD k .empty) 0 m) ++ [keys.getD k .empty]) := by
  funext j
  unfold upd bucket
  rw [List.take_succ_eq_append_getElem hk, List.filter_append]
  have e : keys.getD k .empty = keys[k] := by simp [List.getD, List.getElem?_eq_getElem hk]
  rw [e]
  by_cases hj : j = hval keys[k] 0 m
  · subst hj; simp
  · simp [hj, Ne.symm hj]
theorem bucket_le (keys : List ByteArray) (m k b : Nat) : (bucket (keys.take k) m b).length ≤ k := by
  unfold bucket
  have := List.length_filter_le (fun s => hval s 0 m == b) (keys.take k)
  have := List.length_take_le k keys
  omega

set_option maxHeartbeats 1000000 in
theorem rbuckets_any (ad : Option Addr) (n c : Nat) (keys : List ByteArray) (w : World) (hk : Sl w ad n (strs keys)) (hn1 : n ≤ 1000)
    (hm : ∀ s ∈ keys, s.size ≤ 9223372036854775807) :
    Calls Try.prog 25 #[.slice ad n c] w fun e w' => ∃ V, e = .returned (.slice (some ⟨w.heap.size, 0, none⟩) ((n + 3) / 4) ((n + 3) / 4)) ∧
      Parts w' w.heap.size w.heap.size ((n + 3) / 4) V (bucket keys ((n + 3) / 4)) ∧ Below w.heap.size w w' := by
  have hmk := make45 (((n : Int) + 3) / 4) ((n + 3) / 4) (by omega) (by omega)
  have hl := hk.len
  rw [strs_length] at hl
  have HL := Lib.hid hl
  have hm1 : (n + 3) / 4 ≤ 1000 := by omega
  have hm0 : n ≠ 0 → 0 < (n + 3) / 4 := by omega
  generalize (n + 3) / 4 = m at *
  obtain ⟨b, off, hk⟩ := hk
  have HK := Lib.hid hk
  have HM := Lib.hid hm
  have hbl : n ≠ 0 → b < w.heap.size := fun h => hk.block h
  clear hk hm hl
  go_enter Try.func25, Try.ntmps25
  go_wp2_with fail
  go_loopw [4] (fun i wr => ∃ (k : Nat) (V : Nat → Value), k ≤ n ∧ i = .int .i64 k ∧ Parts wr w.heap.size w.heap.size m V (bucket (keys.take k) m) ∧ Below w.heap.size w wr) (fun i _ => n - (intOf i).toNat)
  case atStart => exact ⟨0, _, Nat.zero_le _, rfl, Parts.new w m _, (Below.refl _ _).alloc (Nat.le_refl _) _⟩
  case round =>
    obtain ⟨k, V, hkn, rfl, hp, hbr⟩ := hrel
    have HP := Lib.hid hp
    have HB := Lib.hid hbr
    have hzr := hp.lt
    clear hp hbr
    by_cases hlt : k < n
    · have hix := HK.out.ix (P := Try.prog) (c := c) 22 9 Try.underlying22 cells9 hlt
      have hcl := HK.out.cell k hlt
      have hks := HM.out _ (getD_mem keys k .empty (by rw [HL.out]; exact hlt))
      rw [strs_getD keys k (by rw [HL.out]; exact hlt)] at hcl
      have hclr := (HB.out.cell (p := ⟨b, off + k, none⟩) (hbl (by omega))).trans hcl
      have HSN := Lib.hid (bucket_snoc keys m k (by rw [HL.out]; exact hlt))
      have hble := bucket_le keys m k (hval (keys.getD k .empty) 0 m)
      generalize keys.getD k .empty = key at *
      have hq := hval_lt key 0 m (hm0 (by omega))
      go_wp2_with fail
      refine (mod_any key 0 m _ hks (by omega) (by omega) (hm0 (by omega)) (by omega)).mono ?_
      rintro e w2 ⟨rfl, hb2⟩
      generalize hval key 0 m = q at *
      have hp2 := HP.out.below hb2
      have HB2 := Lib.hid (HB.out.trans (hb2.mono (by omega)))
      have hclr2 := (hb2.cell (p := ⟨b, off + k, none⟩) (by show b < _; have := hbl (by omega); omega)).trans hclr
      have hzb : b < w2.heap.size := by have := hbl (by omega); have := hb2.size; omega
      have hz2 : w.heap.size < w2.heap.size := by have := hb2.size; omega
      have hcq := hp2.cell hq
      have hfq := hp2.free q
      have hown := hp2.own q hq
      have HP2 := Lib.hid hp2
      clear hb2 hclr hp2 HP HB hzr hcl
      go_wp2_with fail
      obtain ⟨i0, hi, hz0, hz1, hz2'⟩ := info_parts info9
      go_region_law (first
        | (refine step_append_lies _ rfl _ _ _ rfl w.heap.size 9 i0 _ 1 16 Try.underlying22 hi hz0 hz1 hz2' rfl (by omega) (V q) _ _ rfl (World.ownsRow.alloc hown _) ⟨w2.heap.size, 0, none⟩ 1 1 [.string key] rfl rfl (cell_one_new _ _ _)
            (by simp [Value.oneCell']) (by omega) (by unfold maxLen; omega) (by omega) (by simp; omega) _ rfl ?_
           intro g cap w3 hown3 hg3 hat3 hlt3
           have hcq3 := (hg3.cell_far ⟨w.heap.size, q, none⟩ (by simp; omega) (fun e => HP2.out.far q hq e.symm)).trans (show ((w2.alloc (.cells #[.string key] 9)).drew).cell? ⟨w.heap.size, q, none⟩ = some (V q) by go_simp)
           have hfq3 := (hg3.frozen_far ⟨w.heap.size, q, none⟩ (by simp; omega) (fun e => HP2.out.far q hq e.symm)).trans (show ((w2.alloc (.cells #[.string key] 9)).drew).frozen? ⟨w.heap.size, q, none⟩ = false by go_simp)))
      all_goals
        have hpx := HP2.out.below (((Below.refl _ w2).alloc (Nat.le_refl _) (.cells #[.string key] 9)).drew)
        have HST := Lib.hid (hpx.step hq hg3 hown3 (hat3.imp id (fun h => by rw [h]; exact Nat.le_refl _)))
        have HBB := Lib.hid ((((HB2.out.alloc (by omega) (.cells #[.string key] 9)).drew).grown hg3 (by simp; omega) (fun x hx => (World.ownsRow.lt hown x hx).1)).setCell (p := ⟨w.heap.size, q, none⟩) (Nat.le_refl _) (.slice (some ⟨g, 0, none⟩) ((bucket (keys.take k) m q).length + 1) cap))
        clear hpx hown hcq hfq hg3 hown3 hat3 hlt3 hcq3 hfq3
        go_wp2
        go_roundw
        case rel => exact ⟨k + 1, _, by omega, by go_num, by rw [HSN.out]; exact HST.out, HBB.out⟩
        case measure => simp [intOf]; omega
    · obtain rfl : k = n := by omega
      go_wp2
      go_ret
      exact ⟨V, rfl, by have := HP.out; rw [List.take_of_length_le (by rw [HL.out]; omega)] at this; exact this, HB.out⟩

end Go.Proofs.Ytboojpmahfjaoaa
