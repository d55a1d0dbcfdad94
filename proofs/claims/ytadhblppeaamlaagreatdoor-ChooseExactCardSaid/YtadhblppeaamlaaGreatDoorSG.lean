/- Walks over a condition in the program: whether it holds for a number, and the error. -/
import Derived.Test.YtadhblppeaamlaaGreatDoorSF
namespace Go.Proofs.YtadhblppeaamlaaGreatDoor
open Go.RowKit
attribute [local go_sem] Ext.cell Ext.frozen
attribute [local go_sem ↓] Go.wp_at_zero Go.wp_at_succ

/-- whether a condition holds, and the error -/
def holdsV (s : List UInt8) (c : List (List Rel)) : Bool × Nat := if validC c && dOk s then (holdsC s c, 0) else (false, 1)
theorem nholds_any (x : Nat → Value) (r : Rel) (s : ByteArray) (p : Addr) (w : World) (h : RelC w x r) (hs : s.size ≤ 1000) (hp : properV r = true) (hc : w.cell? p = some (.string s)) :
    Calls Tryz.prog 78 #[.agg #[x 0, x 1, x 2, x 3], .pointer (some p)] w fun e w' => e = .returned (.bool (!holdsR s.data.toList r)) ∧ Below w.heap.size w w' := by
  have HP : Hid (∀ W, Below w.heap.size w W → Calls Tryz.prog 79 #[.agg #[x 0, x 1, x 2, x 3], .string s] W fun e w' => e = .returned (.bool (holdsR s.data.toList r)) ∧ Below W.heap.size W w') := fun W hb => holds_any x r s W (h.below hb) hs hp
  have hlt : p.block < w.heap.size := World.block_lt_of_cell? _ _ hc
  have h9 := fun o => Lib.cell?_alloc_some o hc
  clear h hp hs
  generalize holdsR s.data.toList r = q at *
  generalize x 0 = x0 at *
  generalize x 1 = x1 at *
  generalize x 2 = x2 at *
  generalize x 3 = x3 at *
  go_enter Tryz.func78, Tryz.ntmps78
  go_wp2_with fail
  refine (HP.out _ ((Below.refl _ _).alloc (Nat.le_refl _) _)).mono ?_
  rintro e w' ⟨rfl, hb⟩
  have HB : Hid (Below w.heap.size w w') := ((Below.refl _ _).alloc (Nat.le_refl _) _).trans (hb.mono (by simp))
  clear hb
  go_wp2_with fail
  go_ret
  exact ⟨by cases q <;> rfl, HB.out⟩
theorem lholds_any (v : Value) (l : List Rel) (s : ByteArray) (p : Addr) (w : World) (h : RowsOf 4 RelC w v l) (hs : s.size ≤ 1000) (hp : ∀ r ∈ l, properV r = true) (hc : w.cell? p = some (.string s)) :
    Calls Tryz.prog 77 #[v, .pointer (some p)] w fun e w' => e = .returned (.bool (l.all (holdsR s.data.toList))) ∧ Below w.heap.size w w' := by
  obtain ⟨ad, c, f, b, off, rfl, hr, _, _, _, hf⟩ := h
  have hlt : p.block < w.heap.size := World.block_lt_of_cell? _ _ hc
  have HC : Hid (Calls Tryz.prog 70 #[.slice ad l.length c, .func (.func 78) #[] #[.pointer (some p)]] w fun e w' => e = .returned (.bool (!l.all (holdsR s.data.toList))) ∧ Below w.heap.size w w') := by
    have := cont_Rel (fun i => !holdsR s.data.toList (l.getD i ⟨0, 0, false, []⟩)) 78 #[.pointer (some p)] (enters_of Tryz.func78 (by kernel_rfl) rfl) ad l.length c f b off w hr (fun W i hi hb => by
      have h1 := RowsOf.get hf hi ⟨0, 0, false, []⟩
      exact nholds_any (f i) _ s p W (h1.below hb) hs (hp _ (getD_mem l i _ hi)) ((hb.cell hlt).trans hc))
    rw [anyP_list (fun r => !holdsR s.data.toList r), all_any] at this
    exact this
  clear hf hr hp hs
  generalize l.all (holdsR s.data.toList) = q at *
  generalize l.length = m at *
  have hmf : ∀ (fn : Fn) (first cap : Array Value) (w : World), (Instr.makeFunc fn first cap).run Tryz.prog w = .ok (.func fn first cap) w := fun _ _ _ _ => rfl
  go_enter Tryz.func77, Tryz.ntmps77
  go_wp2_with fail
  refine HC.out.mono ?_
  rintro e w' ⟨rfl, hb⟩
  have HB := Lib.hid hb
  clear hb
  go_wp2_with fail
  go_ret
  exact ⟨by cases q <;> rfl, HB.out⟩
theorem cholds_any (v : Value) (c : List (List Rel)) (s : ByteArray) (w : World) (h : CondAt w v c) (hl : c.length ≤ 30) (hs : s.size ≤ 1000) :
    Calls Tryz.prog 64 #[v, .string s] w fun e w' => e = .returned (.tuple #[.bool (holdsV s.data.toList c).1, .int .i64 ((holdsV s.data.toList c).2 : Nat)]) ∧ Below w.heap.size w w' := by
  have HV : Hid (∀ W, Below w.heap.size w W → Calls Tryz.prog 51 #[v] W fun e w' => e = .returned (.bool (validC c)) ∧ Below W.heap.size W w') := fun W hb => cvalid_any v c W (h.below hb) hl
  have HD := Lib.hid (fun W => valid_any s W hs)
  cases hv : validC c with
  | false =>
    have HO : Hid (holdsV s.data.toList c = (false, 1)) := by unfold Hid holdsV; rw [hv]; rfl
    rw [Hid, hv] at HV
    replace HV := Lib.hid HV
    generalize holdsV s.data.toList c = q at *
    clear h
    go_enter Tryz.func64, Tryz.ntmps64
    go_wp2_with fail
    refine (HV.out _ ((Below.refl _ _).alloc (Nat.le_refl _) _)).mono ?_
    rintro e w' ⟨rfl, hb⟩
    have HB : Hid (Below w.heap.size w w') := ((Below.refl _ _).alloc (Nat.le_refl _) _).trans (hb.mono (by simp))
    clear hb
    go_wp2_with fail
    go_ret2
    exact ⟨by rw [HO.out]; rfl, HB.out⟩
  | true =>
    have hpr := validC_all hv
    rw [Hid, hv] at HV
    replace HV := Lib.hid HV
    cases hd : dOk s.data.toList with
    | false =>
      have HO : Hid (holdsV s.data.toList c = (false, 1)) := by unfold Hid holdsV; rw [hv, hd]; rfl
      rw [Hid, hd] at HD
      replace HD := Lib.hid HD
      generalize holdsV s.data.toList c = q at *
      clear h hpr
      go_enter Tryz.func64, Tryz.ntmps64
      go_wp2_with fail
      refine (Calls.toExt (HV.out _ ((Below.refl _ _).alloc (Nat.le_refl _) _))).mono ?_
      rintro e _ ⟨rfl, x1, rfl⟩
      go_wp2_with fail
      refine (Calls.toExt (HD.out _)).mono ?_
      rintro e _ ⟨rfl, x2, rfl⟩
      go_wp2_with fail
      go_ret2
      exact ⟨by rw [HO.out]; rfl, by show Bel w _; exact ((Bel.refl _).alloc _).ext x1 |>.ext x2⟩
    | true =>
      have HO : Hid (holdsV s.data.toList c = (holdsC s.data.toList c, 0)) := by unfold Hid holdsV; rw [hv, hd]; rfl
      rw [Hid, hd] at HD
      replace HD := Lib.hid HD
      obtain ⟨ad, c2, f, b, off, rfl, hr, _, _, _, hf⟩ := h
      have HC : Hid (∀ W, Below w.heap.size w W → W.cell? ⟨w.heap.size, 0, none⟩ = some (.string s) → Calls Tryz.prog 76 #[.slice ad c.length c2, .func (.func 77) #[] #[.pointer (some ⟨w.heap.size, 0, none⟩)]] W fun e w' => e = .returned (.bool (holdsC s.data.toList c)) ∧ Below W.heap.size W w') := fun W hb hc => by
        have hlt : w.heap.size < W.heap.size := World.block_lt_of_cell? _ _ hc
        have := cont_Rels (fun i => (c.getD i []).all (holdsR s.data.toList)) 77 #[.pointer (some ⟨w.heap.size, 0, none⟩)] (enters_of Tryz.func77 (by kernel_rfl) rfl) ad c.length c2 f b off W (hr.below hb) (fun W2 i hi hb2 => by
          have h1 : RowsOf 4 RelC w (f i 0) (c.getD i []) := RowsOf.get hf hi []
          exact lholds_any (f i 0) _ s ⟨w.heap.size, 0, none⟩ W2 ((RelsC.below (x := fun _ => f i 0) h1 hb).below hb2) hs (hpr _ (getD_mem c i _ hi)) ((hb2.cell (p := ⟨w.heap.size, 0, none⟩) hlt).trans hc))
        rw [anyP_list (fun l : List Rel => l.all (holdsR s.data.toList))] at this
        exact this
      generalize holdsV s.data.toList c = q at *
      generalize holdsC s.data.toList c = qc at *
      generalize c.length = m at *
      clear hr hf hpr
      have hmf : ∀ (fn : Fn) (first cap : Array Value) (w : World), (Instr.makeFunc fn first cap).run Tryz.prog w = .ok (.func fn first cap) w := fun _ _ _ _ => rfl
      go_enter Tryz.func64, Tryz.ntmps64
      go_wp2_with fail
      refine (Calls.toExt (HV.out _ ((Below.refl _ _).alloc (Nat.le_refl _) _))).mono ?_
      rintro e _ ⟨rfl, x1, rfl⟩
      have hx1 : w.heap.size < x1.1.heap.size := by have := x1.2.size; simp at this; omega
      go_wp2_with fail
      refine (Calls.toExt (HD.out _)).mono ?_
      rintro e _ ⟨rfl, x2, rfl⟩
      go_wp2_with fail
      refine (Calls.toExt (HC.out _ ?hq1 ?hq2)).mono ?_
      case hq1 => show Bel w _; exact ((Bel.refl _).alloc _).ext x1 |>.ext x2
      case hq2 => simp [go_sem, hx1]
      rintro e _ ⟨rfl, x3, rfl⟩
      go_wp2_with fail
      go_ret2
      exact ⟨by rw [HO.out]; rfl, by show Bel w _; exact (((Bel.refl _).alloc _).ext x1 |>.ext x2).ext x3⟩
end Go.Proofs.YtadhblppeaamlaaGreatDoor
