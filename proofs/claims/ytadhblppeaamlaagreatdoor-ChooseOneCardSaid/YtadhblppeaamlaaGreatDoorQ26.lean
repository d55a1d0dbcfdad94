/- ChooseCase: Choose returns the specified index or error. -/
import Derived.Test.YtadhblppeaamlaaGreatDoorQ24
import Derived.Test.YtadhblppeaamlaaGreatDoorQ25
import Derived.Test.YtadhblppeaamlaaGreatDoorQ17
import Derived.Test.YtadhblppeaamlaaGreatDoorQ00
import Derived.Deep.Slices
import Derived.ChangeArms
import Derived.SizedLaws
import Derived.Test.YtadhblppeaamlaaGreatDoorQ01
namespace Go.Proofs.YtadhblppeaamlaaGreatDoor
open Go.RowKit
attribute [local go_sem] Ext.cell Ext.frozen
attribute [local go_sem ↓] Go.wp_at_zero Go.wp_at_succ

set_option maxRecDepth 20000 in
set_option maxHeartbeats 16000000 in
theorem chooseCase_walk (x p : Nat → Value) (a b : List (ByteArray × List (List Rel))) (d : Nat) (kind : Int) (name : ByteArray) (keys : List ByteArray) (vs : List Vl) (vv : Value) (w : World) (h : LocC w x a b) (hp : PartK d w p kind name keys) (hvv : ValsAt w vv vs) :
    Calls Tryz.prog 3 #[.agg #[x 0, x 1, x 2, x 3, x 4, x 5, x 6, x 7, x 8, x 9, x 10, x 11, x 12, x 13, x 14, x 15], .agg #[p 0, p 1, p 2, p 3, p 4, p 5], vv] w fun e w' => e = .returned (.bool true) ∧ Below w.heap.size w w' := by
  have HA := Lib.hid awake31_any
  have HF : Hid (∀ W, Below w.heap.size w W → Calls Tryz.prog 10 #[.agg #[x 0, x 1, x 2, x 3, x 4, x 5, x 6, x 7, x 8, x 9, x 10, x 11, x 12, x 13, x 14, x 15], .agg #[p 0, p 1, p 2, p 3, p 4, p 5], vv] W (BoolIfB W (FewC a ∧ FewC b ∧ FewV2 vs))) := fun W g => few31_any x p a b vs vv d W (h.below g) (hp.tree.below g) (hvv.below g)
  have HC1 : Hid (FewC a → FewC b → FewV2 vs → ∀ W, Below w.heap.size w W → Calls Tryz.prog 11 #[.agg #[x 0, x 1, x 2, x 3, x 4, x 5, x 6, x 7, x 8, x 9, x 10, x 11, x 12, x 13, x 14, x 15], .agg #[p 0, p 1, p 2, p 3, p 4, p 5], vv] W fun e w' => e = .returned (.tuple #[.int .i64 (chooseW kind (rulesV kind a b) keys (getV vs name).isSome (valOf vs name)).1, .int .i64 ((chooseW kind (rulesV kind a b) keys (getV vs name).isSome (valOf vs name)).2 : Nat)]) ∧ Below W.heap.size W w') := fun ha hb hf W g => choose_any x p a b d kind name keys vs vv W (h.below g) (hp.below g) (hvv.below g) hf.1 ha hb
  have HC2 : Hid (FewC a → FewC b → FewV2 vs → ∀ W, Below w.heap.size w W → Calls Tryz.prog 12 #[.agg #[x 0, x 1, x 2, x 3, x 4, x 5, x 6, x 7, x 8, x 9, x 10, x 11, x 12, x 13, x 14, x 15], .agg #[p 0, p 1, p 2, p 3, p 4, p 5], vv] W fun e w' => e = .returned (.tuple #[.int .i64 (chooseW kind (rulesV kind a b) keys (getV vs name).isSome (valOf vs name)).1, .int .i64 ((chooseW kind (rulesV kind a b) keys (getV vs name).isSome (valOf vs name)).2 : Nat)]) ∧ Below W.heap.size W w') := fun ha hb hf W g => rchoose_any x p a b d kind name keys vs vv W (h.below g) (hp.below g) (hvv.below g) hf.1 ha hb
  obtain ⟨cad, cc, cf, cb, coff, hp4, _⟩ := id hp.k4
  have hp0 := hp.k0
  have hp2 := hp.k2
  obtain ⟨cn, hcn⟩ : ∃ n, keys.length = n := ⟨_, rfl⟩
  rw [hcn] at hp4
  clear h hp hvv hcn
  generalize chooseW kind (rulesV kind a b) keys (getV vs name).isSome (valOf vs name) = cw at *
  obtain ⟨ci, ce⟩ := cw
  simp only at HC1 HC2
  rw [Hid, hp0, hp2, hp4] at HF HC1 HC2
  replace HF := Lib.hid HF
  replace HC1 := Lib.hid HC1
  replace HC2 := Lib.hid HC2
  rw [hp0, hp2, hp4]
  clear hp0 hp2 hp4
  generalize x 0 = x0 at *
  generalize x 1 = x1 at *
  generalize x 2 = x2 at *
  generalize x 3 = x3 at *
  generalize x 4 = x4 at *
  generalize x 5 = x5 at *
  generalize x 6 = x6 at *
  generalize x 7 = x7 at *
  generalize x 8 = x8 at *
  generalize x 9 = x9 at *
  generalize x 10 = x10 at *
  generalize x 11 = x11 at *
  generalize x 12 = x12 at *
  generalize x 13 = x13 at *
  generalize x 14 = x14 at *
  generalize x 15 = x15 at *
  generalize p 1 = p1 at *
  generalize p 3 = p3 at *
  generalize p 5 = p5 at *
  go_enter Tryz.func3, Tryz.ntmps3
  go_wp2_with fail
  refine (HA.out _).mono ?_
  rintro e W1 ⟨rfl, hb1⟩
  have HW1 : Hid (Below w.heap.size w W1) := Below.trans (by show Bel w _; exact ((Bel.refl _).alloc _).alloc _) (hb1.mono (by simp; omega))
  have HRL1 : Hid (W1.heap[w.heap.size]? = some (.cells #[x0, x1, x2, x3, x4, x5, x6, x7, x8, x9, x10, x11, x12, x13, x14, x15] 30 (0, 0))) := (hb1.block _ (by simp; omega)).trans ((Below.heap_alloc _ _ _ (by simp)).trans (row_first w _ _))
  have HRP1 : Hid (W1.heap[w.heap.size + 1]? = some (.cells #[.int .i64 kind, p1, .string name, p3, .slice cad cn cc, p5] 34 (0, 0))) := (hb1.block _ (by simp)).trans (row_second w _ _ _)
  have hz1 : w.heap.size + 1 < W1.heap.size := by have := hb1.size; simp at this; omega
  have o10 : w.heap.size < W1.heap.size := by omega
  clear hb1
  have lq0 : W1.cell? ⟨w.heap.size, 0, none⟩ = some (x0) := by rw [Lib.cell_of_heap HRL1.out]; rfl
  have lq1 : W1.cell? ⟨w.heap.size, 1, none⟩ = some (x1) := by rw [Lib.cell_of_heap HRL1.out]; rfl
  have lq2 : W1.cell? ⟨w.heap.size, 2, none⟩ = some (x2) := by rw [Lib.cell_of_heap HRL1.out]; rfl
  have lq3 : W1.cell? ⟨w.heap.size, 3, none⟩ = some (x3) := by rw [Lib.cell_of_heap HRL1.out]; rfl
  have lq4 : W1.cell? ⟨w.heap.size, 4, none⟩ = some (x4) := by rw [Lib.cell_of_heap HRL1.out]; rfl
  have lq5 : W1.cell? ⟨w.heap.size, 5, none⟩ = some (x5) := by rw [Lib.cell_of_heap HRL1.out]; rfl
  have lq6 : W1.cell? ⟨w.heap.size, 6, none⟩ = some (x6) := by rw [Lib.cell_of_heap HRL1.out]; rfl
  have lq7 : W1.cell? ⟨w.heap.size, 7, none⟩ = some (x7) := by rw [Lib.cell_of_heap HRL1.out]; rfl
  have lq8 : W1.cell? ⟨w.heap.size, 8, none⟩ = some (x8) := by rw [Lib.cell_of_heap HRL1.out]; rfl
  have lq9 : W1.cell? ⟨w.heap.size, 9, none⟩ = some (x9) := by rw [Lib.cell_of_heap HRL1.out]; rfl
  have lq10 : W1.cell? ⟨w.heap.size, 10, none⟩ = some (x10) := by rw [Lib.cell_of_heap HRL1.out]; rfl
  have lq11 : W1.cell? ⟨w.heap.size, 11, none⟩ = some (x11) := by rw [Lib.cell_of_heap HRL1.out]; rfl
  have lq12 : W1.cell? ⟨w.heap.size, 12, none⟩ = some (x12) := by rw [Lib.cell_of_heap HRL1.out]; rfl
  have lq13 : W1.cell? ⟨w.heap.size, 13, none⟩ = some (x13) := by rw [Lib.cell_of_heap HRL1.out]; rfl
  have lq14 : W1.cell? ⟨w.heap.size, 14, none⟩ = some (x14) := by rw [Lib.cell_of_heap HRL1.out]; rfl
  have lq15 : W1.cell? ⟨w.heap.size, 15, none⟩ = some (x15) := by rw [Lib.cell_of_heap HRL1.out]; rfl
  have pq0 : W1.cell? ⟨w.heap.size + 1, 0, none⟩ = some (.int .i64 kind) := by rw [Lib.cell_of_heap HRP1.out]; rfl
  have pq1 : W1.cell? ⟨w.heap.size + 1, 1, none⟩ = some (p1) := by rw [Lib.cell_of_heap HRP1.out]; rfl
  have pq2 : W1.cell? ⟨w.heap.size + 1, 2, none⟩ = some (.string name) := by rw [Lib.cell_of_heap HRP1.out]; rfl
  have pq3 : W1.cell? ⟨w.heap.size + 1, 3, none⟩ = some (p3) := by rw [Lib.cell_of_heap HRP1.out]; rfl
  have pq4 : W1.cell? ⟨w.heap.size + 1, 4, none⟩ = some (.slice cad cn cc) := by rw [Lib.cell_of_heap HRP1.out]; rfl
  have pq5 : W1.cell? ⟨w.heap.size + 1, 5, none⟩ = some (p5) := by rw [Lib.cell_of_heap HRP1.out]; rfl
  go_wp2_with fail
  refine (HF.out _ HW1.out).mono ?_
  rintro e W2 ⟨qa, rfl, hb2, hqa⟩
  have HQA := Lib.hid hqa
  have HB2 : Hid (Below W1.heap.size W1 W2) := hb2
  have HW2 : Hid (Below w.heap.size w W2) := HW1.out.trans (HB2.out.mono HW1.out.size)
  have HRL2 : Hid (W2.heap[w.heap.size]? = some (.cells #[x0, x1, x2, x3, x4, x5, x6, x7, x8, x9, x10, x11, x12, x13, x14, x15] 30 (0, 0))) := (HB2.out.block _ (by omega)).trans HRL1.out
  have HRP2 : Hid (W2.heap[w.heap.size + 1]? = some (.cells #[.int .i64 kind, p1, .string name, p3, .slice cad cn cc, p5] 34 (0, 0))) := (HB2.out.block _ (by omega)).trans HRP1.out
  have hz2 : w.heap.size + 1 < W2.heap.size := by have := HB2.out.size; omega
  clear hb2 hqa
  clear lq0 lq1 lq2 lq3 lq4 lq5 lq6 lq7 lq8 lq9 lq10 lq11 lq12 lq13 lq14 lq15 pq0 pq1 pq2 pq3 pq4 pq5
  cases qa with
  | false =>
    go_wp2_with fail
    go_ret
    exact ⟨rfl, HW2.out⟩
  | true =>
    obtain ⟨hfa, hfb, hfv⟩ := HQA.out rfl
    replace HC1 := Lib.hid (HC1.out hfa hfb hfv)
    replace HC2 := Lib.hid (HC2.out hfa hfb hfv)
    clear hfa hfb hfv HQA
    have e2 : ((ce : Int) == (ce : Int)) = true := by simp
    have e1 : (ci == ci) = true := by simp
    have o20 : w.heap.size < W2.heap.size := by omega
    have lq0 : W2.cell? ⟨w.heap.size, 0, none⟩ = some (x0) := by rw [Lib.cell_of_heap HRL2.out]; rfl
    have lq1 : W2.cell? ⟨w.heap.size, 1, none⟩ = some (x1) := by rw [Lib.cell_of_heap HRL2.out]; rfl
    have lq2 : W2.cell? ⟨w.heap.size, 2, none⟩ = some (x2) := by rw [Lib.cell_of_heap HRL2.out]; rfl
    have lq3 : W2.cell? ⟨w.heap.size, 3, none⟩ = some (x3) := by rw [Lib.cell_of_heap HRL2.out]; rfl
    have lq4 : W2.cell? ⟨w.heap.size, 4, none⟩ = some (x4) := by rw [Lib.cell_of_heap HRL2.out]; rfl
    have lq5 : W2.cell? ⟨w.heap.size, 5, none⟩ = some (x5) := by rw [Lib.cell_of_heap HRL2.out]; rfl
    have lq6 : W2.cell? ⟨w.heap.size, 6, none⟩ = some (x6) := by rw [Lib.cell_of_heap HRL2.out]; rfl
    have lq7 : W2.cell? ⟨w.heap.size, 7, none⟩ = some (x7) := by rw [Lib.cell_of_heap HRL2.out]; rfl
    have lq8 : W2.cell? ⟨w.heap.size, 8, none⟩ = some (x8) := by rw [Lib.cell_of_heap HRL2.out]; rfl
    have lq9 : W2.cell? ⟨w.heap.size, 9, none⟩ = some (x9) := by rw [Lib.cell_of_heap HRL2.out]; rfl
    have lq10 : W2.cell? ⟨w.heap.size, 10, none⟩ = some (x10) := by rw [Lib.cell_of_heap HRL2.out]; rfl
    have lq11 : W2.cell? ⟨w.heap.size, 11, none⟩ = some (x11) := by rw [Lib.cell_of_heap HRL2.out]; rfl
    have lq12 : W2.cell? ⟨w.heap.size, 12, none⟩ = some (x12) := by rw [Lib.cell_of_heap HRL2.out]; rfl
    have lq13 : W2.cell? ⟨w.heap.size, 13, none⟩ = some (x13) := by rw [Lib.cell_of_heap HRL2.out]; rfl
    have lq14 : W2.cell? ⟨w.heap.size, 14, none⟩ = some (x14) := by rw [Lib.cell_of_heap HRL2.out]; rfl
    have lq15 : W2.cell? ⟨w.heap.size, 15, none⟩ = some (x15) := by rw [Lib.cell_of_heap HRL2.out]; rfl
    have pq0 : W2.cell? ⟨w.heap.size + 1, 0, none⟩ = some (.int .i64 kind) := by rw [Lib.cell_of_heap HRP2.out]; rfl
    have pq1 : W2.cell? ⟨w.heap.size + 1, 1, none⟩ = some (p1) := by rw [Lib.cell_of_heap HRP2.out]; rfl
    have pq2 : W2.cell? ⟨w.heap.size + 1, 2, none⟩ = some (.string name) := by rw [Lib.cell_of_heap HRP2.out]; rfl
    have pq3 : W2.cell? ⟨w.heap.size + 1, 3, none⟩ = some (p3) := by rw [Lib.cell_of_heap HRP2.out]; rfl
    have pq4 : W2.cell? ⟨w.heap.size + 1, 4, none⟩ = some (.slice cad cn cc) := by rw [Lib.cell_of_heap HRP2.out]; rfl
    have pq5 : W2.cell? ⟨w.heap.size + 1, 5, none⟩ = some (p5) := by rw [Lib.cell_of_heap HRP2.out]; rfl
    go_wp2_with fail
    refine (HC1.out _ HW2.out).mono ?_
    rintro e W3 ⟨rfl, hb3⟩
    have HB3 : Hid (Below W2.heap.size W2 W3) := hb3
    have HW3 : Hid (Below w.heap.size w W3) := HW2.out.trans (HB3.out.mono HW2.out.size)
    have HRL3 : Hid (W3.heap[w.heap.size]? = some (.cells #[x0, x1, x2, x3, x4, x5, x6, x7, x8, x9, x10, x11, x12, x13, x14, x15] 30 (0, 0))) := (HB3.out.block _ (by omega)).trans HRL2.out
    have HRP3 : Hid (W3.heap[w.heap.size + 1]? = some (.cells #[.int .i64 kind, p1, .string name, p3, .slice cad cn cc, p5] 34 (0, 0))) := (HB3.out.block _ (by omega)).trans HRP2.out
    have hz3 : w.heap.size + 1 < W3.heap.size := by have := HB3.out.size; omega
    clear hb3
    clear lq0 lq1 lq2 lq3 lq4 lq5 lq6 lq7 lq8 lq9 lq10 lq11 lq12 lq13 lq14 lq15 pq0 pq1 pq2 pq3 pq4 pq5
    have o30 : w.heap.size < W3.heap.size := by omega
    have lq0 : W3.cell? ⟨w.heap.size, 0, none⟩ = some (x0) := by rw [Lib.cell_of_heap HRL3.out]; rfl
    have lq1 : W3.cell? ⟨w.heap.size, 1, none⟩ = some (x1) := by rw [Lib.cell_of_heap HRL3.out]; rfl
    have lq2 : W3.cell? ⟨w.heap.size, 2, none⟩ = some (x2) := by rw [Lib.cell_of_heap HRL3.out]; rfl
    have lq3 : W3.cell? ⟨w.heap.size, 3, none⟩ = some (x3) := by rw [Lib.cell_of_heap HRL3.out]; rfl
    have lq4 : W3.cell? ⟨w.heap.size, 4, none⟩ = some (x4) := by rw [Lib.cell_of_heap HRL3.out]; rfl
    have lq5 : W3.cell? ⟨w.heap.size, 5, none⟩ = some (x5) := by rw [Lib.cell_of_heap HRL3.out]; rfl
    have lq6 : W3.cell? ⟨w.heap.size, 6, none⟩ = some (x6) := by rw [Lib.cell_of_heap HRL3.out]; rfl
    have lq7 : W3.cell? ⟨w.heap.size, 7, none⟩ = some (x7) := by rw [Lib.cell_of_heap HRL3.out]; rfl
    have lq8 : W3.cell? ⟨w.heap.size, 8, none⟩ = some (x8) := by rw [Lib.cell_of_heap HRL3.out]; rfl
    have lq9 : W3.cell? ⟨w.heap.size, 9, none⟩ = some (x9) := by rw [Lib.cell_of_heap HRL3.out]; rfl
    have lq10 : W3.cell? ⟨w.heap.size, 10, none⟩ = some (x10) := by rw [Lib.cell_of_heap HRL3.out]; rfl
    have lq11 : W3.cell? ⟨w.heap.size, 11, none⟩ = some (x11) := by rw [Lib.cell_of_heap HRL3.out]; rfl
    have lq12 : W3.cell? ⟨w.heap.size, 12, none⟩ = some (x12) := by rw [Lib.cell_of_heap HRL3.out]; rfl
    have lq13 : W3.cell? ⟨w.heap.size, 13, none⟩ = some (x13) := by rw [Lib.cell_of_heap HRL3.out]; rfl
    have lq14 : W3.cell? ⟨w.heap.size, 14, none⟩ = some (x14) := by rw [Lib.cell_of_heap HRL3.out]; rfl
    have lq15 : W3.cell? ⟨w.heap.size, 15, none⟩ = some (x15) := by rw [Lib.cell_of_heap HRL3.out]; rfl
    have pq0 : W3.cell? ⟨w.heap.size + 1, 0, none⟩ = some (.int .i64 kind) := by rw [Lib.cell_of_heap HRP3.out]; rfl
    have pq1 : W3.cell? ⟨w.heap.size + 1, 1, none⟩ = some (p1) := by rw [Lib.cell_of_heap HRP3.out]; rfl
    have pq2 : W3.cell? ⟨w.heap.size + 1, 2, none⟩ = some (.string name) := by rw [Lib.cell_of_heap HRP3.out]; rfl
    have pq3 : W3.cell? ⟨w.heap.size + 1, 3, none⟩ = some (p3) := by rw [Lib.cell_of_heap HRP3.out]; rfl
    have pq4 : W3.cell? ⟨w.heap.size + 1, 4, none⟩ = some (.slice cad cn cc) := by rw [Lib.cell_of_heap HRP3.out]; rfl
    have pq5 : W3.cell? ⟨w.heap.size + 1, 5, none⟩ = some (p5) := by rw [Lib.cell_of_heap HRP3.out]; rfl
    go_wp2_with fail
    refine (HC2.out _ HW3.out).mono ?_
    rintro e W4 ⟨rfl, hb4⟩
    have HW4 : Hid (Below w.heap.size w W4) := HW3.out.trans (hb4.mono HW3.out.size)
    clear hb4
    clear lq0 lq1 lq2 lq3 lq4 lq5 lq6 lq7 lq8 lq9 lq10 lq11 lq12 lq13 lq14 lq15 pq0 pq1 pq2 pq3 pq4 pq5
    go_wp2_with fail
    go_ret
    exact ⟨rfl, HW4.out⟩
end Go.Proofs.YtadhblppeaamlaaGreatDoor
/- How an argument that is a struct, or a slice of structs, is read; and that what it holds lies within the reach. -/
namespace Go.Proofs.YtadhblppeaamlaaGreatDoor
open Go.ChangeShapes Go.WideShapes Go.RowKit
section
variable {H : Type} {enc : TypeId × Value → H} {w : World} {base : Nat} {spare : Nat → Bool} {held : Bool}
/-- a value that reads as data of a type, each of its strings and slices within the reach -/
abbrev Rz (enc : TypeId × Value → H) (w : World) (base : Nat) (spare : Nat → Bool) (held : Bool) (t : TypeId) (cs : List Value) : Prop :=
  ∃ n x, DataW.trod enc Tryz.prog w base spare held n t cs = some x ∧ ∀ m ∈ x.1.weights Tryz.prog t, m ≤ reachBytes
theorem rz_of {n : Nat} {t : TypeId} {cs : List Value} {x : DataW H × List MemPlace} (h : DataW.trod enc Tryz.prog w base spare held n t cs = some x) (hz : ∀ m ∈ x.1.weights Tryz.prog t, m ≤ reachBytes) : Rz enc w base spare held t cs := ⟨n, x, h, hz⟩
theorem rz_sized {ts : List TypeId} {ds : List (DataW H)} {n : Nat} {t : TypeId} {cs : List Value} {x : DataW H × List MemPlace} (h : DataW.trod enc Tryz.prog w base spare held n t cs = some x)
    (hsz : (DataW.weightsEach Tryz.prog ts ds).all (· ≤ reachBytes) = true) (j : Nat) (ht : ts[j]? = some t) (hd : ds[j]? = some x.1) : Rz enc w base spare held t cs :=
  ⟨n, x, h, fun m hm => by simpa using List.all_eq_true.1 hsz _ (DataW.weights_mem_each ht hd m hm)⟩
theorem spot_of_cell' {W : World} {a : Addr} {v : Value} (h : W.cell? (a.add 0) = some v) : a = ⟨a.block, a.off, none⟩ := by
  have hs : a.spot = none := by simpa [Addr.add] using World.cell?_spot h
  cases a
  simp at hs
  simp [hs]
theorem weightsAll_mem {P : Program} {e : TypeId} : ∀ {l : List (DataW H)} {d : DataW H}, d ∈ l → ∀ m ∈ d.weights P e, m ∈ DataW.weightsAll P e l
  | d0 :: r, d, h, m, hm => by
    simp only [DataW.weightsAll, List.mem_append]
    rcases List.mem_cons.1 h with h | h
    · subst h; exact .inl hm
    · exact .inr (weightsAll_mem h m hm)
theorem rz_rows {t e : TypeId} {k : Nat} {v : Value} (ht : Tryz.prog.underlying t = some (.slice e)) (hk : Tryz.prog.cellsOf e = k) (hk0 : 0 < k) (h : Rz enc w base spare held t [v]) :
    ∃ ad n c, ∃ f : Nat → Nat → Value, ∃ b off, v = .slice ad n c ∧ Rw w ad n k f b off ∧ (ad = none → c = 0) ∧ n * Tryz.prog.bytesOf e ≤ reachBytes ∧ ∀ i, i < n → Rz enc w base spare held e ((List.range k).map (f i)) := by
  obtain ⟨fu, x, h, hz⟩ := h
  rcases Go.Deep.open_slice ht h with ⟨hcs, _⟩ | ⟨a, len, cap, m, n, D, Pl, hcs, _, hl, hm, hmm, hxe, hf⟩
  · injection hcs with hcs
    subst hcs
    exact ⟨none, 0, 0, fun _ _ => undef, 0, 0, rfl, ⟨Nat.zero_le _, fun h => absurd rfl h, fun i j hi => absurd hi (Nat.not_lt_zero _)⟩, fun _ => rfl, by rw [Nat.zero_mul]; exact Nat.zero_le _, fun i hi => absurd hi (Nat.not_lt_zero _)⟩
  · injection hcs with hcs
    subst hcs
    subst hxe
    simp only [DataW.weights, ht, List.mem_cons, List.mem_append] at hz
    have hlm : len ≤ m := by rw [hmm]; split <;> omega
    have hzl : len * Tryz.prog.bytesOf e ≤ reachBytes := by
      have := hz _ (.inl rfl)
      simp only [List.length_map, List.length_range] at this
      exact Nat.le_trans (Nat.mul_le_mul_right _ (by omega)) this
    have hze : ∀ i, i < len → ∀ q ∈ (D i).weights Tryz.prog e, q ≤ reachBytes := fun i hi q hq => hz q (.inr (.inl (weightsAll_mem (List.mem_map.2 ⟨i, List.mem_range.2 hi, rfl⟩) q hq)))
    rw [hk] at hf
    have each : ∀ i, i < len → ∃ g : Nat → Value, (∀ j, j < k → w.cell? (a.add (i * k + j)) = some (g j)) ∧ Rz enc w base spare held e ((List.range k).map g) := fun i hi => by
      obtain ⟨cs', h1, h2⟩ := hf i (by omega)
      obtain ⟨_, hlen, hcell⟩ := World.cells?_some h1
      have hc : (List.range k).map (fun j => cs'.getD j undef) = cs' := by
        apply List.ext_getElem
        · simp [hlen]
        · intro j h1 h2
          simp [List.getD, List.getElem?_eq_getElem h2]
      refine ⟨fun j => cs'.getD j undef, fun j hj => ?_, _, _, by rw [hc]; exact h2, hze i hi⟩
      have := hcell j hj
      rw [Go.Deep.add_add] at this
      rw [this]
      simp [List.getD, List.getElem?_eq_getElem (show j < cs'.length by omega)]
    obtain ⟨f, hf2⟩ := Go.Deep.choose_lt each
    by_cases h0 : len = 0
    · subst h0
      exact ⟨some a, 0, cap, f, 0, 0, rfl, ⟨Nat.zero_le _, fun h => absurd rfl h, fun i j hi => absurd hi (Nat.not_lt_zero _)⟩, fun h => (by cases h), hzl, fun i hi => absurd hi (Nat.not_lt_zero _)⟩
    · have ha := spot_of_cell' (by have := (hf2 0 (by omega)).1 0 hk0; rwa [Nat.zero_mul, Nat.zero_add] at this)
      have had : ∀ j, a.add j = ⟨a.block, a.off + j, none⟩ := fun j => by
        conv => lhs; rw [ha]
        unfold Addr.add
        split
        · rename_i h; subst h; rfl
        · rfl
      refine ⟨some a, len, cap, f, a.block, a.off, rfl, ⟨by unfold maxLen at hm; omega, fun _ => by rw [← ha], fun i j hi hj => ?_⟩, fun h => (by cases h), hzl, fun i hi => (hf2 i hi).2⟩
      have := (hf2 i hi).1 j hj
      rw [had] at this
      rw [Nat.add_assoc]
      exact this
theorem rz_string {v : Value} (h : Rz enc w base spare held 9 [v]) : ∃ s, v = .string s ∧ s.size ≤ reachBytes := by
  obtain ⟨n, x, h, hz⟩ := h
  obtain ⟨s, e, hx, _⟩ := DataW.trod_string Tryz.underlying9 h
  injection e with e
  refine ⟨s, e, ?_⟩
  rw [hx] at hz
  simp only [DataW.weights, List.mem_singleton] at hz
  have := hz _ rfl
  simpa using this
theorem rz_int {v : Value} (h : Rz enc w base spare held 3 [v]) : ∃ z : Int, v = .int .i64 z ∧ -9223372036854775808 ≤ z ∧ z ≤ 9223372036854775807 := by
  obtain ⟨n, x, h, _⟩ := h
  obtain ⟨z, e, _, hz⟩ := DataW.trod_int Tryz.underlying3 h
  injection e with e
  simp [Lit.wf, IntKind.min, IntKind.max, IntKind.signed, IntKind.bits] at hz
  exact ⟨z, e, by omega, by omega⟩
/-- a field of a struct -/
theorem rz_field {t : TypeId} {fs : Array Field} {cs : List Value} (ht : Tryz.prog.underlying t = some (.struct fs)) (h : Rz enc w base spare held t cs) (i : Nat) (f : Field) (hi : fs[i]? = some f) : cs.length = Tryz.prog.cellsOf t ∧ Rz enc w base spare held f.type ((cs.drop f.offset).take (Tryz.prog.cellsOf f.type)) := by
  obtain ⟨n, x, h, hz⟩ := h
  obtain ⟨xs, m, _, hx0, hl, hx, hf⟩ := DataW.trod_struct ht h
  have h1 := hf i f hi
  have hlt : i < xs.length := by rw [hx]; exact (Array.getElem?_eq_some_iff.1 hi).1
  rw [List.getElem?_eq_getElem hlt] at h1
  refine ⟨hl, m, _, h1, fun q hq => ?_⟩
  subst hx0
  simp only [DataW.weights, ht] at hz
  exact hz q (DataW.weights_mem_each (j := i) (by simp [hi]) (by simp [List.getElem?_eq_getElem hlt]) q hq)
theorem cStr' : Tryz.prog.cellsOf 9 = 1 := by kernel_rfl
end
end Go.Proofs.YtadhblppeaamlaaGreatDoor
/- How arguments that are a locale, a question, or a value are read. -/
namespace Go.Proofs.YtadhblppeaamlaaGreatDoor
open Go.ChangeShapes Go.WideShapes Go.RowKit
instance : Inhabited Rel := ⟨⟨0, 0, false, []⟩⟩
section
variable {H : Type} {enc : TypeId × Value → H} {w : World} {base : Nat} {spare : Nat → Bool} {held : Bool}
theorem rz_bool {v : Value} (h : Rz enc w base spare held 4 [v]) : ∃ b, v = .bool b := by
  obtain ⟨n, x, h, _⟩ := h
  obtain ⟨b, e, _⟩ := DataW.trod_bool Tryz.underlying4 h
  injection e with e
  exact ⟨b, e⟩
theorem rz_cap {t e : TypeId} {ad : Option Addr} {n c : Nat} (ht : Tryz.prog.underlying t = some (.slice e)) (h : Rz enc w base spare held t [.slice ad n c]) : n ≤ c := by
  obtain ⟨fu, x, h, _⟩ := h
  rcases Go.Deep.open_slice ht h with ⟨hcs, _⟩ | ⟨a, len, cap, m, n', D, Pl, hcs, _, hl, _⟩
  · injection hcs with hcs
    injection hcs with h1 h2 h3
    omega
  · injection hcs with hcs
    injection hcs with h1 h2 h3
    omega
theorem rowsOf_of {α : Type} [Inhabited α] {t e : TypeId} {k : Nat} {v : Value} {C : World → (Nat → Value) → α → Prop} (ht : Tryz.prog.underlying t = some (.slice e)) (hk : Tryz.prog.cellsOf e = k) (hk0 : 0 < k) (hb : 1 ≤ Tryz.prog.bytesOf e) (h : Rz enc w base spare held t [v])
    (each : ∀ g : Nat → Value, Rz enc w base spare held e ((List.range k).map g) → ∃ x : α, C w g x) : ∃ l : List α, RowsOf k C w v l := by
  obtain ⟨ad, n, c, f, b, off, hv, hr, hc, hz, he⟩ := rz_rows ht hk hk0 h
  subst hv
  have hnc := rz_cap ht h
  obtain ⟨q, hq⟩ := Go.Deep.choose_lt (fun i hi => each (f i) (he i hi))
  have hl : ((List.range n).map q).length = n := by simp
  have hn : n ≤ 140737488351232 := by
    rw [show reachBytes = 140737488351232 from rfl] at hz
    exact Nat.le_trans (by have := Nat.mul_le_mul_left n hb; omega) hz
  refine ⟨(List.range n).map q, ad, c, f, b, off, by rw [hl], by rw [hl]; exact hr, hc, by rw [hl]; exact hnc, by rw [hl]; exact hn, fun i x hx => ?_⟩
  have hi : i < n := by
    have := (List.getElem?_eq_some_iff.1 hx).1
    rwa [hl] at this
  have hx2 : q i = x := by
    simp only [List.getElem?_map, List.getElem?_range hi, Option.map_some, Option.some.injEq] at hx
    exact hx
  rw [← hx2]
  exact hq i hi
theorem spans_of {v : Value} (h : Rz enc w base spare held 91 [v]) : ∃ l, RowsOf 2 SpanC w v l :=
  rowsOf_of Tryz.underlying91 (k := 2) (by kernel_rfl) (by omega) (of_decide_eq_true (by kernel_rfl)) h fun g hg => by
    obtain ⟨z0, e0, _⟩ := rz_int (enc := enc) (w := w) (base := base) (spare := spare) (held := held) (v := g 0) (by
      have this : Rz enc w base spare held 3 ((((List.range 2).map g).drop 0).take (Tryz.prog.cellsOf 3)) := (rz_field Tryz.underlying90 hg 0 _ rfl).2
      rw [show Tryz.prog.cellsOf 3 = 1 by kernel_rfl] at this
      exact this)
    obtain ⟨z1, e1, _⟩ := rz_int (enc := enc) (w := w) (base := base) (spare := spare) (held := held) (v := g 1) (by
      have this : Rz enc w base spare held 3 ((((List.range 2).map g).drop 1).take (Tryz.prog.cellsOf 3)) := (rz_field Tryz.underlying90 hg 1 _ rfl).2
      rw [show Tryz.prog.cellsOf 3 = 1 by kernel_rfl] at this
      exact this)
    exact ⟨(z0, z1), e0, e1⟩
theorem rels_of {v : Value} (h : Rz enc w base spare held 94 [v]) : ∃ l, RowsOf 4 RelC w v l :=
  rowsOf_of Tryz.underlying94 (k := 4) (by kernel_rfl) (by omega) (of_decide_eq_true (by kernel_rfl)) h fun g hg => by
    obtain ⟨z0, e0, _⟩ := rz_int (enc := enc) (w := w) (base := base) (spare := spare) (held := held) (v := g 0) (by
      have this : Rz enc w base spare held 3 ((((List.range 4).map g).drop 0).take (Tryz.prog.cellsOf 3)) := (rz_field Tryz.underlying93 hg 0 _ rfl).2
      rw [show Tryz.prog.cellsOf 3 = 1 by kernel_rfl] at this
      exact this)
    obtain ⟨z1, e1, _⟩ := rz_int (enc := enc) (w := w) (base := base) (spare := spare) (held := held) (v := g 1) (by
      have this : Rz enc w base spare held 3 ((((List.range 4).map g).drop 1).take (Tryz.prog.cellsOf 3)) := (rz_field Tryz.underlying93 hg 1 _ rfl).2
      rw [show Tryz.prog.cellsOf 3 = 1 by kernel_rfl] at this
      exact this)
    obtain ⟨b2, e2⟩ := rz_bool (enc := enc) (w := w) (base := base) (spare := spare) (held := held) (v := g 2) (by
      have this : Rz enc w base spare held 4 ((((List.range 4).map g).drop 2).take (Tryz.prog.cellsOf 4)) := (rz_field Tryz.underlying93 hg 2 _ rfl).2
      rw [show Tryz.prog.cellsOf 4 = 1 by kernel_rfl] at this
      exact this)
    obtain ⟨sp, e3⟩ := spans_of (enc := enc) (w := w) (base := base) (spare := spare) (held := held) (v := g 3) (by
      have this : Rz enc w base spare held 91 ((((List.range 4).map g).drop 3).take (Tryz.prog.cellsOf 91)) := (rz_field Tryz.underlying93 hg 3 _ rfl).2
      rw [show Tryz.prog.cellsOf 91 = 1 by kernel_rfl] at this
      exact this)
    exact ⟨⟨z0, z1, b2, sp⟩, e0, e1, e2, e3⟩
theorem conds_of {v : Value} (h : Rz enc w base spare held 78 [v]) : ∃ c, CondAt w v c :=
  rowsOf_of Tryz.underlying78 (k := 1) (by kernel_rfl) (by omega) (of_decide_eq_true (by kernel_rfl)) h fun g hg => rels_of (enc := enc) (w := w) (base := base) (spare := spare) (held := held) (v := g 0) hg
theorem rules_of {v : Value} (h : Rz enc w base spare held 22 [v]) : ∃ l, RulesAt w v l :=
  rowsOf_of Tryz.underlying22 (k := 2) (by kernel_rfl) (by omega) (of_decide_eq_true (by kernel_rfl)) h fun g hg => by
    obtain ⟨s, e0, _⟩ := rz_string (enc := enc) (w := w) (base := base) (spare := spare) (held := held) (v := g 0) (by
      have this : Rz enc w base spare held 9 ((((List.range 2).map g).drop 0).take (Tryz.prog.cellsOf 9)) := (rz_field Tryz.underlying80 hg 0 _ rfl).2
      rw [show Tryz.prog.cellsOf 9 = 1 by kernel_rfl] at this
      exact this)
    obtain ⟨c, e1⟩ := conds_of (enc := enc) (w := w) (base := base) (spare := spare) (held := held) (v := g 1) (by
      have this : Rz enc w base spare held 78 ((((List.range 2).map g).drop 1).take (Tryz.prog.cellsOf 78)) := (rz_field Tryz.underlying80 hg 1 _ rfl).2
      rw [show Tryz.prog.cellsOf 78 = 1 by kernel_rfl] at this
      exact this)
    exact ⟨(s, c), e0, e1⟩
theorem strs_of {v : Value} (h : Rz enc w base spare held 28 [v]) : ∃ l, RowsOf 1 StrC w v l :=
  rowsOf_of Tryz.underlying28 (k := 1) (by kernel_rfl) (by omega) (of_decide_eq_true (by kernel_rfl)) h fun g hg => by
    obtain ⟨s, e0, hs⟩ := rz_string (enc := enc) (w := w) (base := base) (spare := spare) (held := held) (v := g 0) hg
    exact ⟨s, e0, hs⟩
/-- a value, by its five cells -/
theorem val_of {g : Nat → Value} (hg : Rz enc w base spare held 46 ((List.range 5).map g)) : ∃ v, ValC w g v := by
  obtain ⟨s0, e0, h0⟩ := rz_string (enc := enc) (w := w) (base := base) (spare := spare) (held := held) (v := g 0) (by
    have this : Rz enc w base spare held 9 ((((List.range 5).map g).drop 0).take (Tryz.prog.cellsOf 9)) := (rz_field Tryz.underlying46 hg 0 _ rfl).2
    rw [show Tryz.prog.cellsOf 9 = 1 by kernel_rfl] at this
    exact this)
  obtain ⟨z1, e1, _⟩ := rz_int (enc := enc) (w := w) (base := base) (spare := spare) (held := held) (v := g 1) (by
    have this : Rz enc w base spare held 3 ((((List.range 5).map g).drop 1).take (Tryz.prog.cellsOf 3)) := (rz_field Tryz.underlying46 hg 1 _ rfl).2
    rw [show Tryz.prog.cellsOf 3 = 1 by kernel_rfl] at this
    exact this)
  obtain ⟨s2, e2, h2⟩ := rz_string (enc := enc) (w := w) (base := base) (spare := spare) (held := held) (v := g 2) (by
    have this : Rz enc w base spare held 9 ((((List.range 5).map g).drop 2).take (Tryz.prog.cellsOf 9)) := (rz_field Tryz.underlying46 hg 2 _ rfl).2
    rw [show Tryz.prog.cellsOf 9 = 1 by kernel_rfl] at this
    exact this)
  obtain ⟨z3, e3, _⟩ := rz_int (enc := enc) (w := w) (base := base) (spare := spare) (held := held) (v := g 3) (by
    have this : Rz enc w base spare held 3 ((((List.range 5).map g).drop 3).take (Tryz.prog.cellsOf 3)) := (rz_field Tryz.underlying46 hg 3 _ rfl).2
    rw [show Tryz.prog.cellsOf 3 = 1 by kernel_rfl] at this
    exact this)
  obtain ⟨l, e4⟩ := strs_of (enc := enc) (w := w) (base := base) (spare := spare) (held := held) (v := g 4) (by
    have this : Rz enc w base spare held 28 ((((List.range 5).map g).drop 4).take (Tryz.prog.cellsOf 28)) := (rz_field Tryz.underlying46 hg 4 _ rfl).2
    rw [show Tryz.prog.cellsOf 28 = 1 by kernel_rfl] at this
    exact this)
  exact ⟨⟨s0, z1, s2, z3, l⟩, e0, h0, e1, e2, h2, e3, e4⟩
theorem val_cells {cs : List Value} (h : Rz enc w base spare held 46 cs) : ∃ (g : Nat → Value) (v : Vl), cs = [g 0, g 1, g 2, g 3, g 4] ∧ ValC w g v := by
  have hl : cs.length = 5 := (rz_field Tryz.underlying46 h 0 _ rfl).1.trans (by kernel_rfl)
  match cs, hl with
  | [x0, x1, x2, x3, x4], _ =>
    obtain ⟨v, hv⟩ := val_of (enc := enc) (w := w) (base := base) (spare := spare) (held := held) (g := fun i => ([x0, x1, x2, x3, x4] : List Value).getD i undef) h
    exact ⟨_, v, rfl, hv⟩
/-- a question: a kind, and keys -/
theorem quest_cells {cs : List Value} (h : Rz enc w base spare held 55 cs) : ∃ (z : Int) (v : Value) (l : List ByteArray), cs = [.int .i64 z, v] ∧ RowsOf 1 StrC w v l := by
  have hl : cs.length = 2 := (rz_field Tryz.underlying55 h 0 _ rfl).1.trans (by kernel_rfl)
  match cs, hl with
  | [x0, x1], _ =>
    obtain ⟨z0, e0, _⟩ := rz_int (enc := enc) (w := w) (base := base) (spare := spare) (held := held) (v := x0) (by
      have this : Rz enc w base spare held 3 ((([x0, x1] : List Value).drop 0).take (Tryz.prog.cellsOf 3)) := (rz_field Tryz.underlying55 h 0 _ rfl).2
      rw [show Tryz.prog.cellsOf 3 = 1 by kernel_rfl] at this
      exact this)
    obtain ⟨l, e1⟩ := strs_of (enc := enc) (w := w) (base := base) (spare := spare) (held := held) (v := x1) (by
      have this : Rz enc w base spare held 28 ((([x0, x1] : List Value).drop 1).take (Tryz.prog.cellsOf 28)) := (rz_field Tryz.underlying55 h 1 _ rfl).2
      rw [show Tryz.prog.cellsOf 28 = 1 by kernel_rfl] at this
      exact this)
    exact ⟨z0, x1, l, by rw [e0], e1⟩
/-- a locale, by its sixteen cells; its third and fourth are rules -/
theorem locr_cells {cs : List Value} (h : Rz enc w base spare held 30 cs) : ∃ (x : Nat → Value) (a b : List (ByteArray × List (List Rel))), cs = (List.range 16).map x ∧ LocC w x a b := by
  have hl : cs.length = 16 := (rz_field Tryz.underlying30 h 0 _ rfl).1.trans (by kernel_rfl)
  match cs, hl with
  | [x0, x1, x2, x3, x4, x5, x6, x7, x8, x9, x10, x11, x12, x13, x14, x15], _ =>
    obtain ⟨a, r3⟩ := rules_of (enc := enc) (w := w) (base := base) (spare := spare) (held := held) (v := x3) (by
      have this : Rz enc w base spare held 22 ((([x0, x1, x2, x3, x4, x5, x6, x7, x8, x9, x10, x11, x12, x13, x14, x15] : List Value).drop 3).take (Tryz.prog.cellsOf 22)) := (rz_field Tryz.underlying30 h 3 _ rfl).2
      rw [show Tryz.prog.cellsOf 22 = 1 by kernel_rfl] at this
      exact this)
    obtain ⟨b, r4⟩ := rules_of (enc := enc) (w := w) (base := base) (spare := spare) (held := held) (v := x4) (by
      have this : Rz enc w base spare held 22 ((([x0, x1, x2, x3, x4, x5, x6, x7, x8, x9, x10, x11, x12, x13, x14, x15] : List Value).drop 4).take (Tryz.prog.cellsOf 22)) := (rz_field Tryz.underlying30 h 4 _ rfl).2
      rw [show Tryz.prog.cellsOf 22 = 1 by kernel_rfl] at this
      exact this)
    exact ⟨fun i => ([x0, x1, x2, x3, x4, x5, x6, x7, x8, x9, x10, x11, x12, x13, x14, x15] : List Value).getD i undef, a, b, rfl, r3, r4⟩
end
end Go.Proofs.YtadhblppeaamlaaGreatDoor
