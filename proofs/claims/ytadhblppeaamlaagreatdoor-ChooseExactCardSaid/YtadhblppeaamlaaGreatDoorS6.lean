/- Walks: the value of a name. -/
import Derived.Test.YtadhblppeaamlaaGreatDoorSH
import Derived.Test.YtadhblppeaamlaaGreatDoorShelf2
import Derived.Test.YtadhblppeaamlaaGreatDoorO
namespace Go.Proofs.YtadhblppeaamlaaGreatDoor
open Go.RowKit
attribute [local go_sem] Ext.cell Ext.frozen
attribute [local go_sem ↓] Go.wp_at_zero Go.wp_at_succ

theorem gname_any (x : Nat → Value) (a b : ByteArray) (B : Nat) (w : World) (h0 : x 0 = .string a) (hc : w.cell? ⟨B, 0, none⟩ = some (.string b)) :
    Calls Tryz.prog 48 #[.agg #[x 0, x 1, x 2, x 3, x 4], .pointer (some ⟨B, 0, none⟩)] w fun e w' => e = .returned (.bool (a == b)) ∧ Below w.heap.size w w' := by
  rw [h0]
  have hlt : B < w.heap.size := World.block_lt_of_cell? _ _ hc
  have h9 := fun o => Lib.cell?_alloc_some o hc
  generalize x 1 = x1 at *
  generalize x 2 = x2 at *
  generalize x 3 = x3 at *
  generalize x 4 = x4 at *
  clear h0
  by_cases he : a = b
  · subst he
    have e1 : (a.toList == a.toList) = true := by simp
    rw [show (a == a) = true from by simp]
    go_enter Tryz.func48, Tryz.ntmps48
    go_wp2_with fail
    go_ret
    exact ⟨rfl, (Below.refl _ _).alloc (Nat.le_refl _) _⟩
  · have e1 : (a.toList == b.toList) = false := by rw [beq_eq_false_iff_ne]; exact fun e => he (ByteArray.ext (by simpa [ByteArray.toList_eq] using e))
    rw [show (a == b) = false from by rw [beq_eq_false_iff_ne]; exact he]
    clear he
    go_enter Tryz.func48, Tryz.ntmps48
    go_wp2_with fail
    go_ret
    exact ⟨rfl, (Below.refl _ _).alloc (Nat.le_refl _) _⟩
theorem row_first (w : World) (cs : Array Value) (t : TypeId) : (w.alloc (.cells cs t)).heap[w.heap.size]? = some (.cells cs t (0, 0)) := by show (w.heap.push _)[w.heap.size]? = _; simp
theorem row_second (w : World) (o : Obj) (cs : Array Value) (t : TypeId) : ((w.alloc o).alloc (.cells cs t)).heap[w.heap.size + 1]? = some (.cells cs t (0, 0)) := by
  have := row_first (w.alloc o) cs t
  rwa [World.size_alloc] at this
theorem row_fz6 {w : World} {B : Nat} {cs : Array Value} {t : TypeId} (hb : w.heap[B]? = some (.cells cs t (0, 0))) (j : Nat) : w.frozen? ⟨B, j, none⟩ = false := by
  simp [World.frozen?, hb]
theorem row_st6 {w : World} {B : Nat} {cs : Array Value} {t : TypeId} (hb : w.heap[B]? = some (.cells cs t (0, 0))) (j : Nat) (v : Value) : (w.setCell ⟨B, j, none⟩ v).heap[B]? = some (.cells (cs.setIfInBounds j v) t (0, 0)) := by
  simp [World.setCell, Array.getElem?_modify, hb]
def vl0 : Vl := ⟨.empty, 0, .empty, 0, []⟩
set_option maxRecDepth 20000 in
set_option maxHeartbeats 4000000 in
/-- Get at one value of that name whose list is nil -/
theorem get_one (B : Nat) (nm tx : ByteArray) (ty dt : Int) (w : World) (c0 : w.cell? ⟨B, 0, none⟩ = some (.string nm)) (c1 : w.cell? ⟨B, 1, none⟩ = some (.int .i64 ty)) (c2 : w.cell? ⟨B, 2, none⟩ = some (.string tx)) (c3 : w.cell? ⟨B, 3, none⟩ = some (.int .i64 dt)) (c4 : w.cell? ⟨B, 4, none⟩ = some (.slice none 0 0)) :
    Calls Tryz.prog 23 #[.slice (some ⟨B, 0, none⟩) 1 1, .string nm] w fun e w' => e = .returned (.tuple #[.agg #[.string nm, .int .i64 ty, .string tx, .int .i64 dt, .slice none 0 0], .bool true]) ∧ Below w.heap.size w w' := by
  have hBz : B < w.heap.size := World.block_lt_of_cell? _ _ c0
  have HC : Hid (∀ W, Below w.heap.size w W → W.cell? ⟨w.heap.size, 0, none⟩ = some (.string nm) → Calls Tryz.prog 47 #[.slice (some ⟨B, 0, none⟩) 1 1, .func (.func 48) #[] #[.pointer (some ⟨w.heap.size, 0, none⟩)]] W fun e w' => e = .returned (.int .i64 0) ∧ Below W.heap.size W w') := fun W hb hc => by
    have hltW : w.heap.size < W.heap.size := World.block_lt_of_cell? _ _ hc
    have := idx_Val (fun _ => nm == nm) 48 #[.pointer (some ⟨w.heap.size, 0, none⟩)] (enters_of Tryz.func48 (by kernel_rfl) rfl) (some ⟨B, 0, none⟩) 1 1 (fun _ j => (#[.string nm, .int .i64 ty, .string tx, .int .i64 dt, .slice none 0 0] : Array Value).getD j undef) B 0 W ⟨by omega, fun _ => rfl, fun i j hi hj => by
        obtain rfl : i = 0 := by omega
        rw [Nat.zero_mul, Nat.zero_add, hb.cell (p := ⟨B, j, none⟩) hBz]
        rcases (by omega : j = 0 ∨ j = 1 ∨ j = 2 ∨ j = 3 ∨ j = 4) with h | h | h | h | h <;> subst h
        · exact c0
        · exact c1
        · exact c2
        · exact c3
        · exact c4⟩ (fun W2 i hi hb2 => gname_any (fun j => (#[.string nm, .int .i64 ty, .string tx, .int .i64 dt, .slice none 0 0] : Array Value).getD j undef) nm nm w.heap.size W2 rfl ((hb2.cell (p := ⟨w.heap.size, 0, none⟩) hltW).trans hc))
    rw [show idxP (fun _ => nm == nm) 1 = 0 from by rw [idxP_hit (k := 0) (by omega) (by simp) (fun i hi => absurd hi (Nat.not_lt_zero _))]; rfl] at this
    exact this
  have hmf : ∀ (fn : Fn) (first cap : Array Value) (w : World), (Instr.makeFunc fn first cap).run Tryz.prog w = .ok (.func fn first cap) w := fun _ _ _ _ => rfl
  have HCN : Hid (∀ W, Calls Tryz.prog 49 #[.slice none 0 0] W fun e w' => e = .returned (.slice none 0 0) ∧ W = w') := fun W => (Tryz.slices_Clone_string_nil 0 0 W).mono fun _ _ h => ⟨h.1, h.2.symm⟩
  have C := Lib.hid (And.intro c0 (And.intro c1 (And.intro c2 (And.intro c3 c4))))
  clear c0 c1 c2 c3 c4
  go_enter Tryz.func23, Tryz.ntmps23
  go_wp2_with fail
  refine (HC.out _ ?_ ?_).mono ?_
  · show Bel w _; repeat (first | exact Bel.refl _ | refine Bel.alloc ?_ _)
  · simp [go_sem]
  rintro e W ⟨rfl, hb⟩
  have HB : Hid (Below w.heap.size w W) := Below.trans (by show Bel w _; exact ((Bel.refl _).alloc _).alloc _) (hb.mono (by simp; omega))
  have hz : w.heap.size + 1 < W.heap.size := by have := hb.size; simp at this; omega
  have d0 : W.cell? ⟨B, 0, none⟩ = some (.string nm) := (HB.out.cell (p := ⟨B, 0, none⟩) hBz).trans C.out.1
  have d1 : W.cell? ⟨B, 1, none⟩ = some (.int .i64 ty) := (HB.out.cell (p := ⟨B, 1, none⟩) hBz).trans C.out.2.1
  have d2 : W.cell? ⟨B, 2, none⟩ = some (.string tx) := (HB.out.cell (p := ⟨B, 2, none⟩) hBz).trans C.out.2.2.1
  have d3 : W.cell? ⟨B, 3, none⟩ = some (.int .i64 dt) := (HB.out.cell (p := ⟨B, 3, none⟩) hBz).trans C.out.2.2.2.1
  have d4 : W.cell? ⟨B, 4, none⟩ = some (.slice none 0 0) := (HB.out.cell (p := ⟨B, 4, none⟩) hBz).trans C.out.2.2.2.2
  have HRW : Hid (W.heap[w.heap.size + 1]? = some (.cells #[.string .empty, .int .i64 0, .string .empty, .int .i64 0, .slice none 0 0] 46 (0, 0))) := (hb.block _ (by simp)).trans (row_second w _ _ _)
  have HRX : Rw W (some ⟨B, 0, none⟩) 1 5 (fun _ j => (#[.string nm, .int .i64 ty, .string tx, .int .i64 dt, .slice none 0 0] : Array Value).getD j undef) B 0 := ⟨by omega, fun _ => rfl, fun i j hi hj => by
    obtain rfl : i = 0 := by omega
    rw [Nat.zero_mul, Nat.zero_add]
    rcases (by omega : j = 0 ∨ j = 1 ∨ j = 2 ∨ j = 3 ∨ j = 4) with h | h | h | h | h <;> subst h
    · exact d0
    · exact d1
    · exact d2
    · exact d3
    · exact d4⟩
  have hix : ∀ W2, (Instr.indexAt 35 (.slice (some ⟨B, 0, none⟩) 1 1) (.int .i64 0)).run Tryz.prog W2 = .ok (.pointer (some ⟨B, 0, none⟩)) W2 := fun W2 => by
    have := HRX.ix 35 46 Tryz.underlying35 (by kernel_rfl) (by omega) (show 0 < 1 by omega) 1 W2
    simpa using this
  clear hb HRX
  go_wp2_with fail
  have b0 : (W.frozen? ⟨w.heap.size + 1, 0, none⟩) = false := row_fz6 HRW.out 0
  have b1 : (W.frozen? ⟨w.heap.size + 1, 1, none⟩) = false := row_fz6 HRW.out 1
  have b2 : (W.frozen? ⟨w.heap.size + 1, 2, none⟩) = false := row_fz6 HRW.out 2
  have b3 : (W.frozen? ⟨w.heap.size + 1, 3, none⟩) = false := row_fz6 HRW.out 3
  have b4 : (W.frozen? ⟨w.heap.size + 1, 4, none⟩) = false := row_fz6 HRW.out 4
  have g0 : W.cell? ⟨w.heap.size + 1, 0, none⟩ = some (.string .empty) := by rw [Lib.cell_of_heap HRW.out]; rfl
  have g1 : W.cell? ⟨w.heap.size + 1, 1, none⟩ = some (.int .i64 0) := by rw [Lib.cell_of_heap HRW.out]; rfl
  have g2 : W.cell? ⟨w.heap.size + 1, 2, none⟩ = some (.string .empty) := by rw [Lib.cell_of_heap HRW.out]; rfl
  have g3 : W.cell? ⟨w.heap.size + 1, 3, none⟩ = some (.int .i64 0) := by rw [Lib.cell_of_heap HRW.out]; rfl
  have g4 : W.cell? ⟨w.heap.size + 1, 4, none⟩ = some (.slice none 0 0) := by rw [Lib.cell_of_heap HRW.out]; rfl
  refine (HCN.out _).mono ?_
  rintro e _ ⟨rfl, rfl⟩
  go_wp2_with fail
  have hs2 : w.heap.size ≤ w.heap.size + 1 := by omega
  obtain ⟨X, hX⟩ : ∃ X, X = ((((((W.setCell ⟨w.heap.size + 1, 0, none⟩ (.string nm)).setCell ⟨w.heap.size + 1, 1, none⟩ (.int .i64 ty)).setCell ⟨w.heap.size + 1, 2, none⟩ (.string tx)).setCell ⟨w.heap.size + 1, 3, none⟩ (.int .i64 dt)).setCell ⟨w.heap.size + 1, 4, none⟩ (.slice none 0 0)).alloc (.cells #[.string nm, .int .i64 ty, .string tx, .int .i64 dt, .slice none 0 0] 46)) := ⟨_, rfl⟩
  rw [← hX]
  have hBX : Below w.heap.size w X := by rw [hX]; exact Bel.alloc (Bel.setCell (Bel.setCell (Bel.setCell (Bel.setCell (Bel.setCell HB.out _ _ hs2) _ _ hs2) _ _ hs2) _ _ hs2) _ _ hs2) _
  have hrow : X.heap[w.heap.size + 1]? = some (.cells #[.string nm, .int .i64 ty, .string tx, .int .i64 dt, .slice none 0 0] 46 (0, 0)) := by
    rw [hX]
    exact (Below.heap_alloc _ _ _ (by simp; omega)).trans (row_st6 (row_st6 (row_st6 (row_st6 (row_st6 HRW.out 0 _) 1 _) 2 _) 3 _) 4 _)
  have y0 : X.cell? ⟨w.heap.size + 1, 0, none⟩ = some (.string nm) := by rw [Lib.cell_of_heap hrow]; rfl
  have y1 : X.cell? ⟨w.heap.size + 1, 1, none⟩ = some (.int .i64 ty) := by rw [Lib.cell_of_heap hrow]; rfl
  have y2 : X.cell? ⟨w.heap.size + 1, 2, none⟩ = some (.string tx) := by rw [Lib.cell_of_heap hrow]; rfl
  have y3 : X.cell? ⟨w.heap.size + 1, 3, none⟩ = some (.int .i64 dt) := by rw [Lib.cell_of_heap hrow]; rfl
  have y4 : X.cell? ⟨w.heap.size + 1, 4, none⟩ = some (.slice none 0 0) := by rw [Lib.cell_of_heap hrow]; rfl
  exact bodyPost_ret (v := .tuple #[.agg #[.string nm, .int .i64 ty, .string tx, .int .i64 dt, .slice none 0 0], .bool true]) (by simp [results, Tryz.f23, go_sem, y0, y1, y2, y3, y4]) rfl ⟨rfl, hBX⟩
end Go.Proofs.YtadhblppeaamlaaGreatDoor
