/- How the arguments of the laws are read. -/
import Derived.Test.YtadhblppeaamlaaGreatDoorRows
import Derived.Test.YtadhblppeaamlaaGreatDoorCards
import Derived.Test.YtadhblppeaamlaaGreatDoorTie
import Derived.Test.YtadhblppeaamlaaGreatDoorQ00
import Derived.ProofKit
import Derived.OpenShut
import Derived.ShutString
import Derived.ChangeOld
import Derived.Lib.SmallJoins
import Derived.LaidMore
import Derived.Lay
import Derived.SevenTiedAt
import Derived.Stop.Joined
import Derived.Test.YtadhblppeaamlaaGreatDoorQ12
import Derived.Test.YtadhblppeaamlaaGreatDoorQ16
import Derived.Test.YtadhblppeaamlaaGreatDoorQ11
namespace Go.Proofs.YtadhblppeaamlaaGreatDoor
open Go.ChangeShapes Go.WideShapes Go.ChangeAt Go.RowKit Go.Joins
theorem own : ownKnob Tryz.prog.godebug = none := by kernel_rfl
theorem laidOut : laidOutB Tryz.prog = true := by kernel_rfl
end Go.Proofs.YtadhblppeaamlaaGreatDoor
/- Walks: the value of a name. -/
namespace Go.Proofs.YtadhblppeaamlaaGreatDoor
open Go.RowKit
attribute [local go_sem] Ext.cell Ext.frozen
attribute [local go_sem ↓] Go.wp_at_zero Go.wp_at_succ

theorem gname_any (x : Nat → Value) (a b : ByteArray) (B : Nat) (w : World) (h0 : x 0 = .string a) (hc : w.cell? ⟨B, 0, none⟩ = some (.string b)) :
    Calls Tryz.prog 48 #[.agg #[x 0, x 1, x 2, x 3, x 4], .pointer (some ⟨B, 0, none⟩)] w fun e w' => e = .returned (.bool (a == b)) ∧ Below w.heap.size w w' := by
  rw [h0]
  have hlt : B < w.heap.size := World.block_lt_of_cell? _ _ hc
  have h9 := fun o => Lib.cell?_alloc_some o hc
  generalize x 1 = x1 at *
  generalize x 2 = x2 at *
  generalize x 3 = x3 at *
  generalize x 4 = x4 at *
  clear h0
  by_cases he : a = b
  · subst he
    have e1 : (a.toList == a.toList) = true := by simp
    rw [show (a == a) = true from by simp]
    go_enter Tryz.func48, Tryz.ntmps48
    go_wp2_with fail
    go_ret
    exact ⟨rfl, (Below.refl _ _).alloc (Nat.le_refl _) _⟩
  · have e1 : (a.toList == b.toList) = false := by rw [beq_eq_false_iff_ne]; exact fun e => he (ByteArray.ext (by simpa [ByteArray.toList_eq] using e))
    rw [show (a == b) = false from by rw [beq_eq_false_iff_ne]; exact he]
    clear he
    go_enter Tryz.func48, Tryz.ntmps48
    go_wp2_with fail
    go_ret
    exact ⟨rfl, (Below.refl _ _).alloc (Nat.le_refl _) _⟩
theorem row_first (w : World) (cs : Array Value) (t : TypeId) : (w.alloc (.cells cs t)).heap[w.heap.size]? = some (.cells cs t (0, 0)) := by show (w.heap.push _)[w.heap.size]? = _; simp
theorem row_second (w : World) (o : Obj) (cs : Array Value) (t : TypeId) : ((w.alloc o).alloc (.cells cs t)).heap[w.heap.size + 1]? = some (.cells cs t (0, 0)) := by
  have := row_first (w.alloc o) cs t
  rwa [World.size_alloc] at this
theorem row_fz6 {w : World} {B : Nat} {cs : Array Value} {t : TypeId} (hb : w.heap[B]? = some (.cells cs t (0, 0))) (j : Nat) : w.frozen? ⟨B, j, none⟩ = false := by
  simp [World.frozen?, hb]
theorem row_st6 {w : World} {B : Nat} {cs : Array Value} {t : TypeId} (hb : w.heap[B]? = some (.cells cs t (0, 0))) (j : Nat) (v : Value) : (w.setCell ⟨B, j, none⟩ v).heap[B]? = some (.cells (cs.setIfInBounds j v) t (0, 0)) := by
  simp [World.setCell, Array.getElem?_modify, hb]
def vl0 : Vl := ⟨.empty, 0, .empty, 0, []⟩
set_option maxRecDepth 20000 in
set_option maxHeartbeats 4000000 in
/-- Get at one value of that name whose list is nil -/
theorem get_one (B : Nat) (nm tx : ByteArray) (ty dt : Int) (w : World) (c0 : w.cell? ⟨B, 0, none⟩ = some (.string nm)) (c1 : w.cell? ⟨B, 1, none⟩ = some (.int .i64 ty)) (c2 : w.cell? ⟨B, 2, none⟩ = some (.string tx)) (c3 : w.cell? ⟨B, 3, none⟩ = some (.int .i64 dt)) (c4 : w.cell? ⟨B, 4, none⟩ = some (.slice none 0 0)) :
    Calls Tryz.prog 23 #[.slice (some ⟨B, 0, none⟩) 1 1, .string nm] w fun e w' => e = .returned (.tuple #[.agg #[.string nm, .int .i64 ty, .string tx, .int .i64 dt, .slice none 0 0], .bool true]) ∧ Below w.heap.size w w' := by
  have hBz : B < w.heap.size := World.block_lt_of_cell? _ _ c0
  have HC : Hid (∀ W, Below w.heap.size w W → W.cell? ⟨w.heap.size, 0, none⟩ = some (.string nm) → Calls Tryz.prog 47 #[.slice (some ⟨B, 0, none⟩) 1 1, .func (.func 48) #[] #[.pointer (some ⟨w.heap.size, 0, none⟩)]] W fun e w' => e = .returned (.int .i64 0) ∧ Below W.heap.size W w') := fun W hb hc => by
    have hltW : w.heap.size < W.heap.size := World.block_lt_of_cell? _ _ hc
    have := idx_Val (fun _ => nm == nm) 48 #[.pointer (some ⟨w.heap.size, 0, none⟩)] (enters_of Tryz.func48 (by kernel_rfl) rfl) (some ⟨B, 0, none⟩) 1 1 (fun _ j => (#[.string nm, .int .i64 ty, .string tx, .int .i64 dt, .slice none 0 0] : Array Value).getD j undef) B 0 W ⟨by omega, fun _ => rfl, fun i j hi hj => by
        obtain rfl : i = 0 := by omega
        rw [Nat.zero_mul, Nat.zero_add, hb.cell (p := ⟨B, j, none⟩) hBz]
        rcases (by omega : j = 0 ∨ j = 1 ∨ j = 2 ∨ j = 3 ∨ j = 4) with h | h | h | h | h <;> subst h
        · exact c0
        · exact c1
        · exact c2
        · exact c3
        · exact c4⟩ (fun W2 i hi hb2 => gname_any (fun j => (#[.string nm, .int .i64 ty, .string tx, .int .i64 dt, .slice none 0 0] : Array Value).getD j undef) nm nm w.heap.size W2 rfl ((hb2.cell (p := ⟨w.heap.size, 0, none⟩) hltW).trans hc))
    rw [show idxP (fun _ => nm == nm) 1 = 0 from by rw [idxP_hit (k := 0) (by omega) (by simp) (fun i hi => absurd hi (Nat.not_lt_zero _))]; rfl] at this
    exact this
  have hmf : ∀ (fn : Fn) (first cap : Array Value) (w : World), (Instr.makeFunc fn first cap).run Tryz.prog w = .ok (.func fn first cap) w := fun _ _ _ _ => rfl
  have HCN : Hid (∀ W, Calls Tryz.prog 49 #[.slice none 0 0] W fun e w' => e = .returned (.slice none 0 0) ∧ W = w') := fun W => (Tryz.slices_Clone_string_nil 0 0 W).mono fun _ _ h => ⟨h.1, h.2.symm⟩
  have C := Lib.hid (And.intro c0 (And.intro c1 (And.intro c2 (And.intro c3 c4))))
  clear c0 c1 c2 c3 c4
  go_enter Tryz.func23, Tryz.ntmps23
  go_wp2_with fail
  refine (HC.out _ ?_ ?_).mono ?_
  · show Bel w _; repeat (first | exact Bel.refl _ | refine Bel.alloc ?_ _)
  · simp [go_sem]
  rintro e W ⟨rfl, hb⟩
  have HB : Hid (Below w.heap.size w W) := Below.trans (by show Bel w _; exact ((Bel.refl _).alloc _).alloc _) (hb.mono (by simp; omega))
  have hz : w.heap.size + 1 < W.heap.size := by have := hb.size; simp at this; omega
  have d0 : W.cell? ⟨B, 0, none⟩ = some (.string nm) := (HB.out.cell (p := ⟨B, 0, none⟩) hBz).trans C.out.1
  have d1 : W.cell? ⟨B, 1, none⟩ = some (.int .i64 ty) := (HB.out.cell (p := ⟨B, 1, none⟩) hBz).trans C.out.2.1
  have d2 : W.cell? ⟨B, 2, none⟩ = some (.string tx) := (HB.out.cell (p := ⟨B, 2, none⟩) hBz).trans C.out.2.2.1
  have d3 : W.cell? ⟨B, 3, none⟩ = some (.int .i64 dt) := (HB.out.cell (p := ⟨B, 3, none⟩) hBz).trans C.out.2.2.2.1
  have d4 : W.cell? ⟨B, 4, none⟩ = some (.slice none 0 0) := (HB.out.cell (p := ⟨B, 4, none⟩) hBz).trans C.out.2.2.2.2
  have HRW : Hid (W.heap[w.heap.size + 1]? = some (.cells #[.string .empty, .int .i64 0, .string .empty, .int .i64 0, .slice none 0 0] 46 (0, 0))) := (hb.block _ (by simp)).trans (row_second w _ _ _)
  have HRX : Rw W (some ⟨B, 0, none⟩) 1 5 (fun _ j => (#[.string nm, .int .i64 ty, .string tx, .int .i64 dt, .slice none 0 0] : Array Value).getD j undef) B 0 := ⟨by omega, fun _ => rfl, fun i j hi hj => by
    obtain rfl : i = 0 := by omega
    rw [Nat.zero_mul, Nat.zero_add]
    rcases (by omega : j = 0 ∨ j = 1 ∨ j = 2 ∨ j = 3 ∨ j = 4) with h | h | h | h | h <;> subst h
    · exact d0
    · exact d1
    · exact d2
    · exact d3
    · exact d4⟩
  have hix : ∀ W2, (Instr.indexAt 35 (.slice (some ⟨B, 0, none⟩) 1 1) (.int .i64 0)).run Tryz.prog W2 = .ok (.pointer (some ⟨B, 0, none⟩)) W2 := fun W2 => by
    have := HRX.ix 35 46 Tryz.underlying35 (by kernel_rfl) (by omega) (show 0 < 1 by omega) 1 W2
    simpa using this
  clear hb HRX
  go_wp2_with fail
  have b0 : (W.frozen? ⟨w.heap.size + 1, 0, none⟩) = false := row_fz6 HRW.out 0
  have b1 : (W.frozen? ⟨w.heap.size + 1, 1, none⟩) = false := row_fz6 HRW.out 1
  have b2 : (W.frozen? ⟨w.heap.size + 1, 2, none⟩) = false := row_fz6 HRW.out 2
  have b3 : (W.frozen? ⟨w.heap.size + 1, 3, none⟩) = false := row_fz6 HRW.out 3
  have b4 : (W.frozen? ⟨w.heap.size + 1, 4, none⟩) = false := row_fz6 HRW.out 4
  have g0 : W.cell? ⟨w.heap.size + 1, 0, none⟩ = some (.string .empty) := by rw [Lib.cell_of_heap HRW.out]; rfl
  have g1 : W.cell? ⟨w.heap.size + 1, 1, none⟩ = some (.int .i64 0) := by rw [Lib.cell_of_heap HRW.out]; rfl
  have g2 : W.cell? ⟨w.heap.size + 1, 2, none⟩ = some (.string .empty) := by rw [Lib.cell_of_heap HRW.out]; rfl
  have g3 : W.cell? ⟨w.heap.size + 1, 3, none⟩ = some (.int .i64 0) := by rw [Lib.cell_of_heap HRW.out]; rfl
  have g4 : W.cell? ⟨w.heap.size + 1, 4, none⟩ = some (.slice none 0 0) := by rw [Lib.cell_of_heap HRW.out]; rfl
  refine (HCN.out _).mono ?_
  rintro e _ ⟨rfl, rfl⟩
  go_wp2_with fail
  have hs2 : w.heap.size ≤ w.heap.size + 1 := by omega
  obtain ⟨X, hX⟩ : ∃ X, X = ((((((W.setCell ⟨w.heap.size + 1, 0, none⟩ (.string nm)).setCell ⟨w.heap.size + 1, 1, none⟩ (.int .i64 ty)).setCell ⟨w.heap.size + 1, 2, none⟩ (.string tx)).setCell ⟨w.heap.size + 1, 3, none⟩ (.int .i64 dt)).setCell ⟨w.heap.size + 1, 4, none⟩ (.slice none 0 0)).alloc (.cells #[.string nm, .int .i64 ty, .string tx, .int .i64 dt, .slice none 0 0] 46)) := ⟨_, rfl⟩
  rw [← hX]
  have hBX : Below w.heap.size w X := by rw [hX]; exact Bel.alloc (Bel.setCell (Bel.setCell (Bel.setCell (Bel.setCell (Bel.setCell HB.out _ _ hs2) _ _ hs2) _ _ hs2) _ _ hs2) _ _ hs2) _
  have hrow : X.heap[w.heap.size + 1]? = some (.cells #[.string nm, .int .i64 ty, .string tx, .int .i64 dt, .slice none 0 0] 46 (0, 0)) := by
    rw [hX]
    exact (Below.heap_alloc _ _ _ (by simp; omega)).trans (row_st6 (row_st6 (row_st6 (row_st6 (row_st6 HRW.out 0 _) 1 _) 2 _) 3 _) 4 _)
  have y0 : X.cell? ⟨w.heap.size + 1, 0, none⟩ = some (.string nm) := by rw [Lib.cell_of_heap hrow]; rfl
  have y1 : X.cell? ⟨w.heap.size + 1, 1, none⟩ = some (.int .i64 ty) := by rw [Lib.cell_of_heap hrow]; rfl
  have y2 : X.cell? ⟨w.heap.size + 1, 2, none⟩ = some (.string tx) := by rw [Lib.cell_of_heap hrow]; rfl
  have y3 : X.cell? ⟨w.heap.size + 1, 3, none⟩ = some (.int .i64 dt) := by rw [Lib.cell_of_heap hrow]; rfl
  have y4 : X.cell? ⟨w.heap.size + 1, 4, none⟩ = some (.slice none 0 0) := by rw [Lib.cell_of_heap hrow]; rfl
  exact bodyPost_ret (v := .tuple #[.agg #[.string nm, .int .i64 ty, .string tx, .int .i64 dt, .slice none 0 0], .bool true]) (by simp [results, Tryz.f23, go_sem, y0, y1, y2, y3, y4]) rfl ⟨rfl, hBX⟩
end Go.Proofs.YtadhblppeaamlaaGreatDoor
/- Walks: the value of a name, among any values. -/
namespace Go.Proofs.YtadhblppeaamlaaGreatDoor
open Go.RowKit
attribute [local go_sem] Ext.cell Ext.frozen
attribute [local go_sem ↓] Go.wp_at_zero Go.wp_at_succ

/-- a row of strings of the call's own, as a list, in each world that agrees with this one from a block on -/
theorem own_rows {w : World} {base : Nat} {E : TypeId} {v : Value} {l : List ByteArray} {n : Nat} (h : w.ownsRow base E 1 v n (strs l)) (hm : l.length ≤ 140737488351232) (hs : ∀ s ∈ l, s.size ≤ 140737488351232) :
    ∀ W : World, (∀ a : Addr, base ≤ a.block → a.block < w.heap.size → W.cell? a = w.cell? a) → RowsOf 1 StrC W v l := by
  intro W hW
  have hn : l.length = n := by have := h.1; rw [strs_length] at this; omega
  have hl2 := h.1
  obtain ⟨_, ⟨h1, h2⟩ | ⟨g, cap, cur, h1, h2, h3, h4, h5, h6, h7⟩⟩ := h
  · subst h1
    subst h2
    rw [List.length_eq_zero_iff.1 hn]
    exact ⟨none, 0, fun _ _ => undef, 0, 0, rfl, ⟨Nat.zero_le _, fun h => absurd rfl h, fun i j hi => absurd hi (Nat.not_lt_zero _)⟩, fun _ => rfl, Nat.le_refl _, Nat.zero_le _, fun i x h => (by simp at h)⟩
  · subst hn
    refine ⟨some ⟨g, 0, none⟩, cap, fun i _ => .string (l.getD i .empty), g, 0, h1, ⟨by omega, fun _ => rfl, fun i j hi hj => ?_⟩, (fun h => by cases h), h4, hm, fun i x hx => ?_⟩
    · obtain rfl : j = 0 := by omega
      have hgl : g < w.heap.size := by
        rcases Nat.lt_or_ge g w.heap.size with h' | h'
        · exact h'
        · simp [Array.getElem?_eq_none h'] at h3
      rw [hW _ h2 hgl, Nat.zero_add, Nat.mul_one, Nat.add_zero]
      simp only [World.cell?, h3]
      have : (strs l)[i]? = some (.string (l.getD i .empty)) := by simp [strs, List.getD, List.getElem?_eq_getElem hi]
      rw [← h7, List.getElem?_take, if_pos (by omega), Array.getElem?_toList] at this
      simpa using this
    · obtain ⟨hi, e⟩ := List.getElem?_eq_some_iff.1 hx
      refine ⟨?_, hs x (e ▸ List.getElem_mem hi)⟩
      show Value.string (l.getD i .empty) = _
      rw [List.getD, hx]
      rfl
theorem row_other {w : World} {B B' : Nat} {o : Obj} {j : Nat} {v : Value} (hb : w.heap[B]? = some o) (h : B' ≠ B) : (w.setCell ⟨B', j, none⟩ v).heap[B]? = some o := by
  simp [World.setCell, Array.getElem?_modify, hb, h]
/-- what Clone answers of a list of strings: a row of the call's own -/
def CloneP (w : World) (l : List ByteArray) (e : Ending) (w' : World) : Prop :=
  ∃ ad c, e = .returned (.slice ad l.length c) ∧ (∀ W : World, (∀ a : Addr, w.heap.size ≤ a.block → a.block < w'.heap.size → W.cell? a = w'.cell? a) → RowsOf 1 StrC W (.slice ad l.length c) l) ∧ Below w.heap.size w w'
theorem rows_nil1 (W : World) : RowsOf 1 StrC W (.slice none 0 0) [] := ⟨none, 0, fun _ _ => undef, 0, 0, rfl, ⟨Nat.zero_le _, fun h => absurd rfl h, fun i j hi => absurd hi (Nat.not_lt_zero _)⟩, fun _ => rfl, Nat.le_refl _, Nat.zero_le _, fun i x h => (by simp at h)⟩
theorem clone_any (v : Value) (l : List ByteArray) (w : World) (h : RowsOf 1 StrC w v l) (hl : l.length ≤ 1000) : Calls Tryz.prog 49 #[v] w (CloneP w l) := by
  obtain ⟨ad, c, f, b, off, rfl, hr, hz, hc, hm, hf⟩ := h
  cases ad with
  | none =>
    have h0 : l.length = 0 := by
      by_cases h : l.length = 0
      · exact h
      · exact absurd (hr.adr h) (by simp)
    have hl0 := List.length_eq_zero_iff.1 h0
    subst hl0
    refine (Tryz.slices_Clone_string_nil 0 c w).mono ?_
    rintro e w' ⟨rfl, rfl⟩
    exact ⟨none, 0, rfl, fun W _ => rows_nil1 W, Below.refl _ _⟩
  | some a =>
    by_cases h0 : l.length = 0
    · have hl0 := List.length_eq_zero_iff.1 h0
      subst hl0
      refine (Tryz.slices_Clone_string_zero a c w).mono ?_
      rintro e w' ⟨v', rfl, ho, _, hb⟩
      obtain ⟨ad', c', rfl⟩ := own_form ho
      exact ⟨ad', c', rfl, own_rows (l := []) ho (Nat.zero_le _) (fun s h => absurd h List.not_mem_nil), hb⟩
    · have ha := hr.adr h0
      injection ha with ha
      subst ha
      have hss : ∀ s ∈ l, s.size ≤ 140737488351232 := fun s hs => by
        obtain ⟨i, hi⟩ := List.getElem?_of_mem hs
        exact (hf i s hi).2
      refine (Tryz.slices_Clone_string b off l.length c l w (Nat.le_refl _) (by omega) (fun j hj => ?_)).mono ?_
      · have := hr.cell j 0 hj (by omega)
        rw [Nat.mul_one, Nat.add_zero] at this
        rw [this, (RowsOf.get hf hj ByteArray.empty).1]
      · rintro e w' ⟨v', rfl, ho, _, hb⟩
        rw [List.take_length] at ho
        obtain ⟨ad', c', rfl⟩ := own_form ho
        exact ⟨ad', c', rfl, own_rows (l := l) ho hm hss, hb⟩
/-- the first value of a name -/
def getV (vs : List Vl) (name : ByteArray) : Option Vl := vs.find? fun v => v.nm == name
/-- .. or a value of nothing -/
def valOf (vs : List Vl) (name : ByteArray) : Vl := (getV vs name).getD vl0
/-- what Get answers: the five cells of a value, and whether there is one -/
def GetP (w : World) (vs : List Vl) (name : ByteArray) (e : Ending) (w' : World) : Prop :=
  ∃ y : Nat → Value, e = .returned (.tuple #[.agg #[y 0, y 1, y 2, y 3, y 4], .bool (getV vs name).isSome]) ∧ Below w.heap.size w w' ∧ ValC w' y (valOf vs name)
theorem find_hit {vs : List Vl} {name : ByteArray} {d : Vl} {k : Nat} (hk : k < vs.length) (h : ((vs.getD k d).nm == name) = true) (hm : ∀ i, i < k → ((vs.getD i d).nm == name) = false) : getV vs name = some (vs.getD k d) := by
  unfold getV
  have e : vs = vs.take k ++ vs.getD k d :: vs.drop (k + 1) := by
    rw [show vs.getD k d = vs[k] from by simp [List.getD, List.getElem?_eq_getElem hk], ← List.drop_eq_getElem_cons hk, List.take_append_drop]
  have h0 : (vs.take k).find? (fun v => v.nm == name) = none := List.find?_eq_none.2 fun x hx => by
    obtain ⟨i, hi, rfl⟩ := List.getElem_of_mem hx
    have hik : i < k := by simp at hi; omega
    have := hm i hik
    rw [show vs.getD i d = (vs.take k)[i] from by simp [List.getD, List.getElem?_eq_getElem (show i < vs.length by omega)]] at this
    rw [this]
    simp
  conv => lhs; rw [e]
  rw [List.find?_append, h0, List.find?_cons_of_pos (p := fun v : Vl => v.nm == name) h]
  rfl
theorem find_miss {vs : List Vl} {name : ByteArray} {d : Vl} (hm : ∀ i, i < vs.length → ((vs.getD i d).nm == name) = false) : getV vs name = none := List.find?_eq_none.2 fun x hx => by
  obtain ⟨i, hi, rfl⟩ := List.getElem_of_mem hx
  have := hm i hi
  rw [show vs.getD i d = vs[i] from by simp [List.getD, List.getElem?_eq_getElem hi]] at this
  rw [this]
  simp
theorem vl0_cells (w : World) : ValC w (fun i => (#[.string .empty, .int .i64 0, .string .empty, .int .i64 0, .slice none 0 0] : Array Value).getD i undef) vl0 :=
  ⟨rfl, Nat.zero_le _, rfl, rfl, Nat.zero_le _, rfl, rows_nil1 w⟩
set_option maxRecDepth 20000 in
set_option maxHeartbeats 8000000 in
theorem get_any (v : Value) (vs : List Vl) (name : ByteArray) (w : World) (h : ValsAt w v vs) (hl : ∀ v ∈ vs, v.li.length ≤ 1000) : Calls Tryz.prog 23 #[v, .string name] w (GetP w vs name) := by
  obtain ⟨ad, c, f, b, off, rfl, hr, _, _, _, hf⟩ := h
  obtain ⟨n, hn⟩ : ∃ n, vs.length = n := ⟨_, rfl⟩
  rw [hn] at hr ⊢
  have HN := Lib.hid hn
  have HR := Lib.hid hr
  have HF := Lib.hid hf
  have HL := Lib.hid hl
  have HC : Hid (∀ W, Below w.heap.size w W → W.cell? ⟨w.heap.size, 0, none⟩ = some (.string name) → Calls Tryz.prog 47 #[.slice ad n c, .func (.func 48) #[] #[.pointer (some ⟨w.heap.size, 0, none⟩)]] W fun e w' => e = .returned (.int .i64 (idxP (fun i => (vs.getD i vl0).nm == name) n)) ∧ Below W.heap.size W w') := fun W hb hc => by
    have hltW : w.heap.size < W.heap.size := World.block_lt_of_cell? _ _ hc
    exact idx_Val (fun i => (vs.getD i vl0).nm == name) 48 #[.pointer (some ⟨w.heap.size, 0, none⟩)] (enters_of Tryz.func48 (by kernel_rfl) rfl) ad n c f b off W (hr.below hb) (fun W2 i hi hb2 => by
      have h0 := (RowsOf.get hf (show i < vs.length by omega) vl0).1
      exact gname_any (f i) _ _ w.heap.size W2 h0 ((hb2.cell (p := ⟨w.heap.size, 0, none⟩) hltW).trans hc))
  have hmf : ∀ (fn : Fn) (first cap : Array Value) (w : World), (Instr.makeFunc fn first cap).run Tryz.prog w = .ok (.func fn first cap) w := fun _ _ _ _ => rfl
  have hcs := idxP_cases (fun i => (vs.getD i vl0).nm == name) n
  clear hr hf hn hl
  generalize idxP (fun i => (vs.getD i vl0).nm == name) n = z at *
  rcases hcs with ⟨k, hk, hp, hm, rfl⟩ | ⟨hm, rfl⟩
  · have hk0 : k < vs.length := by rw [HN.out]; exact hk
    have HFD : Hid (getV vs name = some (vs.getD k vl0)) := find_hit hk0 hp hm
    have hv := RowsOf.get HF.out hk0 vl0
    have hll := HL.out _ (getD_mem vs k vl0 hk0)
    unfold GetP valOf
    rw [HFD.out]
    simp only [Option.isSome_some, Option.getD_some]
    have hnm := HN.out
    clear hp hm hk0 HF HL HFD HN hnm
    generalize vs.getD k vl0 = q at *
    obtain ⟨nm, ty, tx, dt, li⟩ := q
    obtain ⟨e0, s0, e1, e2, s2, e3, r4⟩ := hv
    simp only at e0 s0 e1 e2 s2 e3 r4 hll
    obtain ⟨m, hm⟩ : ∃ m, li.length = m := ⟨_, rfl⟩
    obtain ⟨ad4, c4, e4⟩ : ∃ ad4 c4, f k 4 = .slice ad4 li.length c4 := by obtain ⟨ad4, c4, _, _, _, e4, _⟩ := r4; exact ⟨ad4, c4, e4⟩
    rw [e4] at r4
    rw [hm] at r4 e4
    have HM := Lib.hid hm
    clear hm
    have hbz : b < w.heap.size := HR.out.block (by omega) (by omega)
    have kn : k < n := hk
    have HS := Lib.hid (And.intro s0 s2)
    have HLL := Lib.hid hll
    have HR4 := Lib.hid r4
    have c0 := HR.out.cell k 0 hk (by omega)
    have c1 := HR.out.cell k 1 hk (by omega)
    have c2 := HR.out.cell k 2 hk (by omega)
    have c3 := HR.out.cell k 3 hk (by omega)
    have c4' := HR.out.cell k 4 hk (by omega)
    rw [e0] at c0
    rw [e1] at c1
    rw [e2] at c2
    rw [e3] at c3
    rw [e4] at c4'
    have C := Lib.hid (And.intro c0 (And.intro c1 (And.intro c2 (And.intro c3 c4'))))
    clear c0 c1 c2 c3 c4' e0 e1 e2 e3 e4 s0 s2 hll r4
    have hkm := HR.out.max
    go_enter Tryz.func23, Tryz.ntmps23
    go_wp2_with fail
    refine (HC.out _ ?_ ?_).mono ?_
    · show Bel w _; repeat (first | exact Bel.refl _ | refine Bel.alloc ?_ _)
    · simp [go_sem]
    rintro e W ⟨rfl, hb⟩
    have HB : Hid (Below w.heap.size w W) := Below.trans (by show Bel w _; exact ((Bel.refl _).alloc _).alloc _) (hb.mono (by simp; omega))
    have hz : w.heap.size + 1 < W.heap.size := by have := hb.size; simp at this; omega
    have d0 := (HB.out.cell (p := ⟨b, off + k * 5 + 0, none⟩) hbz).trans C.out.1
    have d1 := (HB.out.cell (p := ⟨b, off + k * 5 + 1, none⟩) hbz).trans C.out.2.1
    have d2 := (HB.out.cell (p := ⟨b, off + k * 5 + 2, none⟩) hbz).trans C.out.2.2.1
    have d3 := (HB.out.cell (p := ⟨b, off + k * 5 + 3, none⟩) hbz).trans C.out.2.2.2.1
    have d4 := (HB.out.cell (p := ⟨b, off + k * 5 + 4, none⟩) hbz).trans C.out.2.2.2.2
    rw [Nat.add_zero] at d0
    have HRW : Hid (W.heap[w.heap.size + 1]? = some (.cells #[.string .empty, .int .i64 0, .string .empty, .int .i64 0, .slice none 0 0] 46 (0, 0))) := (hb.block _ (by simp)).trans (row_second w _ _ _)
    have hix : ∀ W2, (Instr.indexAt 35 (.slice ad n c) (.int .i64 (k : Int))).run Tryz.prog W2 = .ok (.pointer (some ⟨b, off + k * 5, none⟩)) W2 := fun W2 => HR.out.ix 35 46 Tryz.underlying35 (by kernel_rfl) (by omega) hk c W2
    clear hb
    go_wp2_with fail
    have b0 : (W.frozen? ⟨w.heap.size + 1, 0, none⟩) = false := row_fz6 HRW.out 0
    have b1 : (W.frozen? ⟨w.heap.size + 1, 1, none⟩) = false := row_fz6 HRW.out 1
    have b2 : (W.frozen? ⟨w.heap.size + 1, 2, none⟩) = false := row_fz6 HRW.out 2
    have b3 : (W.frozen? ⟨w.heap.size + 1, 3, none⟩) = false := row_fz6 HRW.out 3
    have b4 : (W.frozen? ⟨w.heap.size + 1, 4, none⟩) = false := row_fz6 HRW.out 4
    have g0 : W.cell? ⟨w.heap.size + 1, 0, none⟩ = some (.string .empty) := by rw [Lib.cell_of_heap HRW.out]; rfl
    have g1 : W.cell? ⟨w.heap.size + 1, 1, none⟩ = some (.int .i64 0) := by rw [Lib.cell_of_heap HRW.out]; rfl
    have g2 : W.cell? ⟨w.heap.size + 1, 2, none⟩ = some (.string .empty) := by rw [Lib.cell_of_heap HRW.out]; rfl
    have g3 : W.cell? ⟨w.heap.size + 1, 3, none⟩ = some (.int .i64 0) := by rw [Lib.cell_of_heap HRW.out]; rfl
    have g4 : W.cell? ⟨w.heap.size + 1, 4, none⟩ = some (.slice none 0 0) := by rw [Lib.cell_of_heap HRW.out]; rfl
    have hs2 : w.heap.size ≤ w.heap.size + 1 := by omega
    have hs3 : w.heap.size ≤ W.heap.size := by omega
    obtain ⟨W5, hW5⟩ : ∃ W5, W5 = W.alloc (.cells #[.string nm, .int .i64 ty, .string tx, .int .i64 dt, .slice ad4 m c4] 46) := ⟨_, rfl⟩
    rw [← hW5]
    have HB5 : Hid (Below w.heap.size w W5) := by rw [Hid, hW5]; exact Bel.alloc HB.out _
    have HR5 : Hid (W5.heap[W.heap.size]? = some (.cells #[.string nm, .int .i64 ty, .string tx, .int .i64 dt, .slice ad4 m c4] 46 (0, 0))) := by rw [Hid, hW5]; exact row_first W _ _
    have HRZ : Hid (W5.heap[w.heap.size + 1]? = some (.cells #[.string .empty, .int .i64 0, .string .empty, .int .i64 0, .slice none 0 0] 46 (0, 0))) := by rw [Hid, hW5]; exact (Below.heap_alloc _ _ _ hz).trans HRW.out
    have hz5 : W.heap.size + 1 = W5.heap.size := by rw [hW5]; simp
    have HZ5 := Lib.hid hz5
    clear hW5 b0 b1 b2 b3 b4 g0 g1 g2 g3 g4 d0 d1 d2 d3 d4 hix hz5
    have HR4W := Lib.hid (HR4.out.map HB5.out fun _ _ h => h)
    refine (clone_any (.slice ad4 m c4) li W5 HR4W.out HLL.out).mono ?_
    rintro e X1 ⟨ad', c', rfl, hrows, hb6⟩
    have HRO := Lib.hid hrows
    have HR6 : Hid (X1.heap[W.heap.size]? = some (.cells #[.string nm, .int .i64 ty, .string tx, .int .i64 dt, .slice ad4 m c4] 46 (0, 0))) := (hb6.block _ (by have := HZ5.out; omega)).trans HR5.out
    have HR7 : Hid (X1.heap[w.heap.size + 1]? = some (.cells #[.string .empty, .int .i64 0, .string .empty, .int .i64 0, .slice none 0 0] 46 (0, 0))) := (hb6.block _ (by have := HZ5.out; omega)).trans HRZ.out
    have hz6 : W.heap.size < X1.heap.size := by have := hb6.size; have := HZ5.out; omega
    have HB6 : Hid (Below w.heap.size w X1) := HB5.out.trans (hb6.mono HB5.out.size)
    have hmm := HM.out
    rw [hmm]
    clear hrows hb6 hmm
    have b4 : (X1.frozen? ⟨W.heap.size, 4, none⟩) = false := row_fz6 HR6.out 4
    have g0 : X1.cell? ⟨W.heap.size, 0, none⟩ = some (.string nm) := by rw [Lib.cell_of_heap HR6.out]; rfl
    have g1 : X1.cell? ⟨W.heap.size, 1, none⟩ = some (.int .i64 ty) := by rw [Lib.cell_of_heap HR6.out]; rfl
    have g2 : X1.cell? ⟨W.heap.size, 2, none⟩ = some (.string tx) := by rw [Lib.cell_of_heap HR6.out]; rfl
    have g3 : X1.cell? ⟨W.heap.size, 3, none⟩ = some (.int .i64 dt) := by rw [Lib.cell_of_heap HR6.out]; rfl
    have g4 : X1.cell? ⟨W.heap.size, 4, none⟩ = some (.slice ad4 m c4) := by rw [Lib.cell_of_heap HR6.out]; rfl
    have z0 : X1.cell? ⟨w.heap.size + 1, 0, none⟩ = some (.string .empty) := by rw [Lib.cell_of_heap HR7.out]; rfl
    have z1 : X1.cell? ⟨w.heap.size + 1, 1, none⟩ = some (.int .i64 0) := by rw [Lib.cell_of_heap HR7.out]; rfl
    have z2 : X1.cell? ⟨w.heap.size + 1, 2, none⟩ = some (.string .empty) := by rw [Lib.cell_of_heap HR7.out]; rfl
    have z3 : X1.cell? ⟨w.heap.size + 1, 3, none⟩ = some (.int .i64 0) := by rw [Lib.cell_of_heap HR7.out]; rfl
    have z4 : X1.cell? ⟨w.heap.size + 1, 4, none⟩ = some (.slice none 0 0) := by rw [Lib.cell_of_heap HR7.out]; rfl
    have q0 : (X1.frozen? ⟨w.heap.size + 1, 0, none⟩) = false := row_fz6 HR7.out 0
    have q1 : (X1.frozen? ⟨w.heap.size + 1, 1, none⟩) = false := row_fz6 HR7.out 1
    have q2 : (X1.frozen? ⟨w.heap.size + 1, 2, none⟩) = false := row_fz6 HR7.out 2
    have q3 : (X1.frozen? ⟨w.heap.size + 1, 3, none⟩) = false := row_fz6 HR7.out 3
    have q4 : (X1.frozen? ⟨w.heap.size + 1, 4, none⟩) = false := row_fz6 HR7.out 4
    have hne : W.heap.size ≠ w.heap.size + 1 := by omega
    have hne2 : w.heap.size + 1 ≠ W.heap.size := by omega
    go_wp2_with fail
    obtain ⟨X, hX⟩ : ∃ X, X = (((((X1.setCell ⟨W.heap.size, 4, none⟩ (.slice ad' m c')).setCell ⟨w.heap.size + 1, 0, none⟩ (.string nm)).setCell ⟨w.heap.size + 1, 1, none⟩ (.int .i64 ty)).setCell ⟨w.heap.size + 1, 2, none⟩ (.string tx)).setCell ⟨w.heap.size + 1, 3, none⟩ (.int .i64 dt)).setCell ⟨w.heap.size + 1, 4, none⟩ (.slice ad' m c') := ⟨_, rfl⟩
    rw [← hX]
    have hBX : Below w.heap.size w X := by rw [hX]; exact Bel.setCell (Bel.setCell (Bel.setCell (Bel.setCell (Bel.setCell (Bel.setCell HB6.out _ _ hs3) _ _ hs2) _ _ hs2) _ _ hs2) _ _ hs2) _ _ hs2
    have hrow : X.heap[w.heap.size + 1]? = some (.cells #[.string nm, .int .i64 ty, .string tx, .int .i64 dt, .slice ad' m c'] 46 (0, 0)) := by
      rw [hX]
      exact row_st6 (row_st6 (row_st6 (row_st6 (row_st6 ((row_other HR7.out hne)) 0 _) 1 _) 2 _) 3 _) 4 _
    have y0 : X.cell? ⟨w.heap.size + 1, 0, none⟩ = some (.string nm) := by rw [Lib.cell_of_heap hrow]; rfl
    have y1 : X.cell? ⟨w.heap.size + 1, 1, none⟩ = some (.int .i64 ty) := by rw [Lib.cell_of_heap hrow]; rfl
    have y2 : X.cell? ⟨w.heap.size + 1, 2, none⟩ = some (.string tx) := by rw [Lib.cell_of_heap hrow]; rfl
    have y3 : X.cell? ⟨w.heap.size + 1, 3, none⟩ = some (.int .i64 dt) := by rw [Lib.cell_of_heap hrow]; rfl
    have y4 : X.cell? ⟨w.heap.size + 1, 4, none⟩ = some (.slice ad' m c') := by rw [Lib.cell_of_heap hrow]; rfl
    have hro := HRO.out
    rw [HM.out] at hro
    have hfin : RowsOf 1 StrC X (.slice ad' m c') li := hro X fun a ha hl => by
      have hz9 := HZ5.out
      have na : ∀ j, (⟨w.heap.size + 1, j, none⟩ : Addr) ≠ a := fun j e => by have := congrArg Addr.block e; simp only at this; omega
      have nb : (⟨W.heap.size, 4, none⟩ : Addr) ≠ a := fun e => by have := congrArg Addr.block e; simp only at this; omega
      rw [hX, World.cell?_setCell_other (h := na _), World.cell?_setCell_other (h := na _), World.cell?_setCell_other (h := na _), World.cell?_setCell_other (h := na _), World.cell?_setCell_other (h := na _), World.cell?_setCell_other (h := nb)]
    exact bodyPost_ret (v := .tuple #[.agg #[.string nm, .int .i64 ty, .string tx, .int .i64 dt, .slice ad' m c'], .bool true]) (by simp [results, Tryz.f23, go_sem, y0, y1, y2, y3, y4]) rfl ⟨fun j => (#[.string nm, .int .i64 ty, .string tx, .int .i64 dt, .slice ad' m c'] : Array Value).getD j undef, rfl, hBX, rfl, HS.out.1, rfl, rfl, HS.out.2, rfl, hfin⟩
  · have HFD : Hid (getV vs name = none) := find_miss (d := vl0) (by rw [HN.out]; exact hm)
    unfold GetP valOf
    rw [HFD.out]
    simp only [Option.isSome_none, Option.getD_none]
    clear hm HF HL HFD HN HR
    go_enter Tryz.func23, Tryz.ntmps23
    go_wp2_with fail
    refine (Calls.toExt (HC.out _ ?_ ?_)).mono ?_
    · show Bel w _; repeat (first | exact Bel.refl _ | refine Bel.alloc ?_ _)
    · simp [go_sem]
    rintro e _ ⟨rfl, u1, rfl⟩
    have hx1 : w.heap.size + 1 < u1.1.heap.size := by have := u1.2.size; simp at this; omega
    go_wp2_with fail
    exact bodyPost_ret (v := .tuple #[.agg #[.string ⟨#[]⟩, .int .i64 0, .string ⟨#[]⟩, .int .i64 0, .slice none 0 0], .bool false]) (by simp [results, Tryz.f23, go_sem]) rfl ⟨fun i => (#[.string ⟨#[]⟩, .int .i64 0, .string ⟨#[]⟩, .int .i64 0, .slice none 0 0] : Array Value).getD i undef, rfl, by show Bel w _; repeat (first | exact Bel.refl _ | refine Bel.alloc ?_ _ | refine Bel.ext ?_ _ | refine Bel.setCell ?_ _ _ ?_ | exact Nat.le_succ _), vl0_cells _⟩
end Go.Proofs.YtadhblppeaamlaaGreatDoor
/- Walks: whether values are few. -/
namespace Go.Proofs.YtadhblppeaamlaaGreatDoor
open Go.RowKit
attribute [local go_sem] Ext.cell Ext.frozen
attribute [local go_sem ↓] Go.wp_at_zero Go.wp_at_succ

/-- short texts -/
def FewV (vs : List Vl) : Prop := ∀ v ∈ vs, v.tx.size ≤ 200
def vz : Vl := ⟨.empty, 0, .empty, 0, []⟩
set_option maxRecDepth 20000 in
set_option maxHeartbeats 4000000 in
theorem vfew_any (v : Value) (vs : List Vl) (w : World) (h : ValsAt w v vs) : Calls Tryz.prog 19 #[v] w (BoolIf w (FewV vs)) := by
  obtain ⟨ad, c, f, b, off, rfl, hr, _, _, _, hf⟩ := h
  obtain ⟨n, hn⟩ : ∃ n, vs.length = n := ⟨_, rfl⟩
  rw [hn] at hr ⊢
  have hnm := hr.max
  have HN := Lib.hid hn
  have HR := Lib.hid hr
  have HF := Lib.hid hf
  clear hr hf hn
  go_enter Tryz.func19, Tryz.ntmps19
  go_wp2_with fail
  go_loop [3] (fun v => ∃ k : Nat, v = .int .i64 (k : Int) ∧ k ≤ n ∧ (∀ i, i < k → (vs.getD i vz).tx.size ≤ 200)) (fun v => n - (intOf v).toNat)
  case atStart => exact ⟨0, rfl, Nat.zero_le _, fun i hi => absurd hi (Nat.not_lt_zero _)⟩
  case round =>
    obtain ⟨k, rfl, hkn, hal⟩ := hrel
    have HAL := Lib.hid hal
    clear hal
    by_cases hlt : k < n
    · have hix := fun W => HR.out.ix 35 46 Tryz.underlying35 (by kernel_rfl) (by omega) hlt c W
      have hk0 : k < vs.length := by rw [HN.out]; exact hlt
      have c0 : w.cell? ⟨b, off + k * 5, none⟩ = some (f k 0) := HR.out.cell k 0 hlt (by omega)
      have c2 : w.cell? ⟨b, off + k * 5 + 2, none⟩ = some (f k 2) := HR.out.cell k 2 hlt (by omega)
      have c4 : w.cell? ⟨b, off + k * 5 + 4, none⟩ = some (f k 4) := HR.out.cell k 4 hlt (by omega)
      obtain ⟨f0, s0, _, f2, s2, _, ad4, cc4, g, b4, off4, f4, hr4, _, _, hm4, hg⟩ := RowsOf.get HF.out hk0 vz
      rw [f0] at c0
      rw [f2] at c2
      rw [f4] at c4
      have HYES : Hid ((vs.getD k vz).tx.size ≤ 200 → ∀ i, i < k + 1 → (vs.getD i vz).tx.size ≤ 200) := fun h i hi => by
        by_cases e : i = k
        · subst e; exact h
        · exact HAL.out i (by omega)
      clear f0 f2 f4 hk0
      generalize (vs.getD k vz).nm = nm at *
      generalize (vs.getD k vz).tx = tx at *
      generalize (vs.getD k vz).li = li at *
      obtain ⟨m, hm⟩ : ∃ m, li.length = m := ⟨_, rfl⟩
      rw [hm] at hr4 c4 hm4
      have HM := Lib.hid hm
      have HR4 := Lib.hid hr4
      have HG := Lib.hid hg
      clear hm hr4 hg
      go_wp2_with fail
      go_loop [4, 5] (fun u v => ∃ (q : Nat) (z : Int), v = .int .i64 (q : Int) ∧ q ≤ m ∧ u = .int .i64 z ∧ (tx.size : Int) ≤ z) (fun _ v => m - (intOf v).toNat)
      case atStart => exact ⟨0, _, rfl, Nat.zero_le _, rfl, Int.le_refl _⟩
      case round =>
        obtain ⟨q, z, rfl, hqm, rfl, hz⟩ := hrel
        by_cases hlt2 : q < m
        · have hix2 := fun W => HR4.out.ix 28 9 Tryz.underlying28 (by kernel_rfl) (by omega) hlt2 cc4 W
          rw [Nat.mul_one] at hix2
          have d0 : w.cell? ⟨b4, off4 + q * 1, none⟩ = some (g q 0) := HR4.out.cell q 0 hlt2 (by omega)
          rw [Nat.mul_one] at d0
          obtain ⟨g0, gs⟩ := RowsOf.get HG.out (show q < li.length by rw [HM.out]; exact hlt2) ByteArray.empty
          rw [g0] at d0
          clear g0
          generalize li.getD q .empty = st at *
          go_wp2_with fail
          go_round
          case rel => exact ⟨q + 1, _, by go_num, by omega, rfl, by omega⟩
          case measure => simp [intOf]; omega
        · obtain rfl : q = m := by omega
          by_cases h1 : 200 < z
          · go_wp2_with fail
            go_ret
            exact ⟨false, rfl, rfl, fun h => by cases h⟩
          by_cases h2 : 12 < (q : Int)
          · go_wp2_with fail
            go_ret
            exact ⟨false, rfl, rfl, fun h => by cases h⟩
          by_cases h3 : 60 < (nm.size : Int)
          · go_wp2_with fail
            go_ret
            exact ⟨false, rfl, rfl, fun h => by cases h⟩
          have HO := Lib.hid (HYES.out (by omega))
          clear HYES
          go_wp2_with fail
          go_round
          case rel => exact ⟨k + 1, by go_num, by omega, HO.out⟩
          case measure => simp [intOf]; omega
    · obtain rfl : k = n := by omega
      go_wp2_with fail
      go_ret
      exact ⟨_, rfl, rfl, fun _ => fun r hr => by
        obtain ⟨i, hi, rfl⟩ := List.getElem_of_mem hr
        have := HAL.out i (by rw [← HN.out]; exact hi)
        simpa [List.getD, List.getElem?_eq_getElem hi] using this⟩
end Go.Proofs.YtadhblppeaamlaaGreatDoor
/- Walks: whether values are few, in texts, lists and number. -/
namespace Go.Proofs.YtadhblppeaamlaaGreatDoor
open Go.RowKit
attribute [local go_sem] Ext.cell Ext.frozen
attribute [local go_sem ↓] Go.wp_at_zero Go.wp_at_succ

/-- short texts, short lists, and few of them -/
def FewV2 (vs : List Vl) : Prop := (∀ v ∈ vs, v.tx.size ≤ 200 ∧ v.li.length ≤ 12) ∧ vs.length ≤ 30
set_option maxRecDepth 20000 in
set_option maxHeartbeats 4000000 in
theorem vfew2_any (v : Value) (vs : List Vl) (w : World) (h : ValsAt w v vs) : Calls Tryz.prog 19 #[v] w (BoolIf w (FewV2 vs)) := by
  obtain ⟨ad, c, f, b, off, rfl, hr, _, _, _, hf⟩ := h
  obtain ⟨n, hn⟩ : ∃ n, vs.length = n := ⟨_, rfl⟩
  rw [hn] at hr ⊢
  have hnm := hr.max
  have HN := Lib.hid hn
  have HR := Lib.hid hr
  have HF := Lib.hid hf
  clear hr hf hn
  go_enter Tryz.func19, Tryz.ntmps19
  go_wp2_with fail
  go_loop [3] (fun v => ∃ k : Nat, v = .int .i64 (k : Int) ∧ k ≤ n ∧ (∀ i, i < k → (vs.getD i vz).tx.size ≤ 200 ∧ (vs.getD i vz).li.length ≤ 12)) (fun v => n - (intOf v).toNat)
  case atStart => exact ⟨0, rfl, Nat.zero_le _, fun i hi => absurd hi (Nat.not_lt_zero _)⟩
  case round =>
    obtain ⟨k, rfl, hkn, hal⟩ := hrel
    have HAL := Lib.hid hal
    clear hal
    by_cases hlt : k < n
    · have hix := fun W => HR.out.ix 35 46 Tryz.underlying35 (by kernel_rfl) (by omega) hlt c W
      have hk0 : k < vs.length := by rw [HN.out]; exact hlt
      have c0 : w.cell? ⟨b, off + k * 5, none⟩ = some (f k 0) := HR.out.cell k 0 hlt (by omega)
      have c2 : w.cell? ⟨b, off + k * 5 + 2, none⟩ = some (f k 2) := HR.out.cell k 2 hlt (by omega)
      have c4 : w.cell? ⟨b, off + k * 5 + 4, none⟩ = some (f k 4) := HR.out.cell k 4 hlt (by omega)
      obtain ⟨f0, s0, _, f2, s2, _, ad4, cc4, g, b4, off4, f4, hr4, _, _, hm4, hg⟩ := RowsOf.get HF.out hk0 vz
      rw [f0] at c0
      rw [f2] at c2
      rw [f4] at c4
      have HYES : Hid ((vs.getD k vz).tx.size ≤ 200 ∧ (vs.getD k vz).li.length ≤ 12 → ∀ i, i < k + 1 → (vs.getD i vz).tx.size ≤ 200 ∧ (vs.getD i vz).li.length ≤ 12) := fun h i hi => by
        by_cases e : i = k
        · subst e; exact h
        · exact HAL.out i (by omega)
      clear f0 f2 f4 hk0
      generalize (vs.getD k vz).nm = nm at *
      generalize (vs.getD k vz).tx = tx at *
      generalize (vs.getD k vz).li = li at *
      obtain ⟨m, hm⟩ : ∃ m, li.length = m := ⟨_, rfl⟩
      rw [hm] at hr4 c4 hm4
      have HM := Lib.hid hm
      have HR4 := Lib.hid hr4
      have HG := Lib.hid hg
      clear hm hr4 hg
      go_wp2_with fail
      go_loop [4, 5] (fun u v => ∃ (q : Nat) (z : Int), v = .int .i64 (q : Int) ∧ q ≤ m ∧ u = .int .i64 z ∧ (tx.size : Int) ≤ z) (fun _ v => m - (intOf v).toNat)
      case atStart => exact ⟨0, _, rfl, Nat.zero_le _, rfl, Int.le_refl _⟩
      case round =>
        obtain ⟨q, z, rfl, hqm, rfl, hz⟩ := hrel
        by_cases hlt2 : q < m
        · have hix2 := fun W => HR4.out.ix 28 9 Tryz.underlying28 (by kernel_rfl) (by omega) hlt2 cc4 W
          rw [Nat.mul_one] at hix2
          have d0 : w.cell? ⟨b4, off4 + q * 1, none⟩ = some (g q 0) := HR4.out.cell q 0 hlt2 (by omega)
          rw [Nat.mul_one] at d0
          obtain ⟨g0, gs⟩ := RowsOf.get HG.out (show q < li.length by rw [HM.out]; exact hlt2) ByteArray.empty
          rw [g0] at d0
          clear g0
          generalize li.getD q .empty = st at *
          go_wp2_with fail
          go_round
          case rel => exact ⟨q + 1, _, by go_num, by omega, rfl, by omega⟩
          case measure => simp [intOf]; omega
        · obtain rfl : q = m := by omega
          by_cases h1 : 200 < z
          · go_wp2_with fail
            go_ret
            exact ⟨false, rfl, rfl, fun h => by cases h⟩
          by_cases h2 : 12 < (q : Int)
          · go_wp2_with fail
            go_ret
            exact ⟨false, rfl, rfl, fun h => by cases h⟩
          by_cases h3 : 60 < (nm.size : Int)
          · go_wp2_with fail
            go_ret
            exact ⟨false, rfl, rfl, fun h => by cases h⟩
          have HO := Lib.hid (HYES.out ⟨by omega, by have := HM.out; omega⟩)
          clear HYES
          go_wp2_with fail
          go_round
          case rel => exact ⟨k + 1, by go_num, by omega, HO.out⟩
          case measure => simp [intOf]; omega
    · obtain rfl : k = n := by omega
      by_cases h30 : (k : Int) ≤ 30
      · go_wp2_with fail
        go_ret
        exact ⟨true, rfl, rfl, fun _ => ⟨fun r hr => by
          obtain ⟨i, hi, rfl⟩ := List.getElem_of_mem hr
          have := HAL.out i (by rw [← HN.out]; exact hi)
          simpa [List.getD, List.getElem?_eq_getElem hi] using this, by have := HN.out; omega⟩⟩
      · have h31 : decide ((k : Int) ≤ 30) = false := by simpa using h30
        go_wp2_with fail
        go_ret
        exact ⟨false, rfl, rfl, fun h => by cases h⟩
end Go.Proofs.YtadhblppeaamlaaGreatDoor
