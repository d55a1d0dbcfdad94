/- Walks over a condition in the program: whether it holds for a number. -/
import Derived.Test.YtadhblppeaamlaaGreatDoorSE
import Derived.Test.YtadhblppeaamlaaGreatDoorW9
namespace Go.Proofs.YtadhblppeaamlaaGreatDoor
open Go.RowKit
attribute [local go_sem] Ext.cell Ext.frozen
attribute [local go_sem ↓] Go.wp_at_zero Go.wp_at_succ

theorem insp_any (a z : Int) (p : Addr) (n : Int) (W : World) (hp : W.cell? p = some (.int .i64 n)) : Calls Tryz.prog 106 #[.agg #[.int .i64 a, .int .i64 z], .pointer (some p)] W fun e w' => e = .returned (.bool (decide (a ≤ n) && decide (n ≤ z))) ∧ Below W.heap.size W w' := by
  have hlt : p.block < W.heap.size := World.block_lt_of_cell? _ _ hp
  have h9 := fun o => Lib.cell?_alloc_some o hp
  by_cases h1 : a ≤ n
  · by_cases h2 : n ≤ z
    · rw [decide_eq_true h1, decide_eq_true h2]
      go_enter Tryz.func106, Tryz.ntmps106
      go_wp2_with fail
      go_ret
      exact ⟨rfl, (Below.refl _ _).alloc (Nat.le_refl _) _⟩
    · rw [decide_eq_true h1, decide_eq_false h2]
      go_enter Tryz.func106, Tryz.ntmps106
      go_wp2_with fail
      go_ret
      exact ⟨rfl, (Below.refl _ _).alloc (Nat.le_refl _) _⟩
  · rw [decide_eq_false h1]
    go_enter Tryz.func106, Tryz.ntmps106
    go_wp2_with fail
    go_ret
    exact ⟨rfl, (Below.refl _ _).alloc (Nat.le_refl _) _⟩
theorem in_any (v : Value) (l : List (Int × Int)) (n : Int) (w : World) (h : RowsOf 2 SpanC w v l) : Calls Tryz.prog 95 #[v, .int .i64 n] w fun e w' => e = .returned (.bool (insideV l n)) ∧ Below w.heap.size w w' := by
  obtain ⟨ad, c, f, b, off, rfl, hr, _, _, _, hf⟩ := h
  have HC : Hid (∀ e, Calls Tryz.prog 105 #[.slice ad l.length c, .func (.func 106) #[] #[.pointer (some ⟨w.heap.size, 0, none⟩)]] (w.alloc (.cells #[.int .i64 n] e)) fun e' w' => e' = .returned (.bool (insideV l n)) ∧ Below (w.alloc (.cells #[.int .i64 n] e)).heap.size (w.alloc (.cells #[.int .i64 n] e)) w') := fun e => by
    have hb0 : Below w.heap.size w (w.alloc (.cells #[.int .i64 n] e)) := (Below.refl _ _).alloc (Nat.le_refl _) _
    have := cont_Span (fun i => decide ((l.getD i (0, 0)).1 ≤ n) && decide (n ≤ (l.getD i (0, 0)).2)) 106 #[.pointer (some ⟨w.heap.size, 0, none⟩)] (enters_of Tryz.func106 (by kernel_rfl) rfl) ad l.length c f b off (w.alloc (.cells #[.int .i64 n] e)) (hr.below hb0) (fun W i hi hb => by
      obtain ⟨h0, h1⟩ := RowsOf.get hf hi (0, 0)
      rw [h0, h1]
      refine insp_any _ _ ⟨w.heap.size, 0, none⟩ n W ?_
      rw [hb.cell (p := ⟨w.heap.size, 0, none⟩) (by simp)]
      simp [go_sem])
    rw [anyP_list (fun s : Int × Int => decide (s.1 ≤ n) && decide (n ≤ s.2))] at this
    exact this
  generalize insideV l n = q at *
  generalize l.length = m at *
  have hmf : ∀ (fn : Fn) (first cap : Array Value) (w : World), (Instr.makeFunc fn first cap).run Tryz.prog w = .ok (.func fn first cap) w := fun _ _ _ _ => rfl
  go_enter Tryz.func95, Tryz.ntmps95
  go_wp2_with fail
  refine (HC.out _).mono ?_
  rintro e w' ⟨rfl, hb⟩
  have HB : Hid (Below w.heap.size w w') := ((Below.refl _ _).alloc (Nat.le_refl _) _).trans (hb.mono (by simp))
  clear hb
  go_wp2_with fail
  go_ret
  exact ⟨rfl, HB.out⟩
set_option maxRecDepth 20000 in
set_option maxHeartbeats 2000000 in
theorem holds_any (x : Nat → Value) (r : Rel) (s : ByteArray) (w : World) (h : RelC w x r) (hs : s.size ≤ 1000) (hp : properV r = true) : Calls Tryz.prog 79 #[.agg #[x 0, x 1, x 2, x 3], .string s] w fun e w' => e = .returned (.bool (holdsR s.data.toList r)) ∧ Below w.heap.size w w' := by
  obtain ⟨x0, x1, x2, hsp⟩ := h
  have hmd := proper_md hp
  rw [x0, x1, x2]
  obtain ⟨op, md, neg, sp⟩ := r
  simp only at hsp hmd ⊢
  have HOP : Hid (∀ W, Calls Tryz.prog 94 #[.string s, .int .i64 op] W fun e w' => e = .returned (.tuple #[.int .i64 ((opV s.data.toList op).1 : Nat), .int .i64 ((opV s.data.toList op).2 : Nat)]) ∧ Below W.heap.size W w') := fun W => operand_any s op W hs
  have HI : Hid (∀ W z, Below w.heap.size w W → Calls Tryz.prog 95 #[x 3, .int .i64 z] W fun e w' => e = .returned (.bool (insideV sp z)) ∧ Below W.heap.size W w') := fun W z hb => in_any _ sp z W (hsp.map hb fun _ _ h => h)
  have HR : Hid (holdsR s.data.toList ⟨op, md, neg, sp⟩ = if (opV s.data.toList op).2 = 0 then insideV sp (if md = 0 then ((opV s.data.toList op).1 : Int) else ((opV s.data.toList op).1 : Int) % md) != neg else neg) := rfl
  generalize holdsR s.data.toList ⟨op, md, neg, sp⟩ = qq at *
  generalize x 3 = v3 at *
  generalize opV s.data.toList op = ov at *
  obtain ⟨a, er⟩ := ov
  simp only at HR HOP
  clear hsp x0 x1 x2 hp
  by_cases he : er = 0
  · subst he
    rw [Hid, if_pos rfl] at HR
    replace HR := Lib.hid HR
    by_cases hm : md = 0
    · subst hm
      rw [Hid, if_pos rfl] at HR
      replace HR := Lib.hid HR
      replace HI := Lib.hid (fun W hb => HI.out W (a : Int) hb)
      generalize insideV sp (a : Int) = q at *
      clear hmd
      go_enter Tryz.func79, Tryz.ntmps79
      go_wp2_with fail
      refine (Calls.toExt (HOP.out _)).mono ?_
      rintro e _ ⟨rfl, x1, rfl⟩
      have hx1 : w.heap.size < x1.1.heap.size := by have := x1.2.size; simp at this; omega
      go_wp2_with fail
      refine wp_region_ext (by kernel_rfl) (by kernel_rfl) ?_
      repeat (go_big_quiet_step ((go_at_call 95; refine Calls.ext (HI.out _ ?_); show Bel w _; repeat (first | exact Bel.refl _ | refine Bel.drew ?_ | refine Bel.drewN ?_ _ | refine Bel.alloc ?_ _ | refine Bel.ext ?_ _))))
      refine wpQuiet_nil ?_
      intro _ hw'
      obtain ⟨y, hw''⟩ := hw'
      subst hw''
      go_wp2_with fail
      go_ret
      exact ⟨by rw [HR.out]; cases q <;> cases neg <;> rfl, by show Bel w _; repeat (first | exact Bel.refl _ | refine Bel.drew ?_ | refine Bel.drewN ?_ _ | refine Bel.alloc ?_ _ | refine Bel.ext ?_ _)⟩
    · rw [Hid, if_neg hm] at HR
      replace HR := Lib.hid HR
      have h1 : 2 ≤ md ∧ md ≤ 100 := hmd.resolve_left hm
      have hz0 : 0 ≤ (a : Int) % md := Int.emod_nonneg _ hm
      have hz1 : (a : Int) % md < md := Int.emod_lt_of_pos _ (by omega)
      have hq : (a : Int).tmod md = (a : Int) % md := Int.tmod_eq_emod_of_nonneg (by omega)
      replace HI := Lib.hid (fun W hb => HI.out W ((a : Int) % md) hb)
      have hw : IntKind.i64.wrap ((a : Int) % md) = (a : Int) % md := by rw [IntKind.wrap_i64]; omega
      have h30 : (md != 0) = true := by simpa using hm
      generalize insideV sp ((a : Int) % md) = q at *
      generalize (a : Int) % md = z at *
      clear hmd hz0 hz1
      go_enter Tryz.func79, Tryz.ntmps79
      go_wp2_with fail
      refine (Calls.toExt (HOP.out _)).mono ?_
      rintro e _ ⟨rfl, x1, rfl⟩
      have hx1 : w.heap.size < x1.1.heap.size := by have := x1.2.size; simp at this; omega
      go_wp2_with fail
      refine wp_region_ext (by kernel_rfl) (by kernel_rfl) ?_
      repeat (go_big_quiet_step ((go_at_call 95; refine Calls.ext (HI.out _ ?_); show Bel w _; repeat (first | exact Bel.refl _ | refine Bel.drew ?_ | refine Bel.drewN ?_ _ | refine Bel.alloc ?_ _ | refine Bel.ext ?_ _))))
      refine wpQuiet_nil ?_
      intro _ hw'
      obtain ⟨y, hw''⟩ := hw'
      subst hw''
      go_wp2_with fail
      go_ret
      exact ⟨by rw [HR.out]; cases q <;> cases neg <;> rfl, by show Bel w _; repeat (first | exact Bel.refl _ | refine Bel.drew ?_ | refine Bel.drewN ?_ _ | refine Bel.alloc ?_ _ | refine Bel.ext ?_ _)⟩
  · rw [Hid, if_neg he] at HR
    replace HR := Lib.hid HR
    have h1 : ((er : Int) != 0) = true := by simpa using he
    clear he hmd HI
    go_enter Tryz.func79, Tryz.ntmps79
    go_wp2_with fail
    refine (Calls.toExt (HOP.out _)).mono ?_
    rintro e _ ⟨rfl, x1, rfl⟩
    go_wp2_with fail
    go_ret
    exact ⟨by rw [HR.out]; rfl, by show Bel w _; repeat (first | exact Bel.refl _ | refine Bel.drew ?_ | refine Bel.drewN ?_ _ | refine Bel.alloc ?_ _ | refine Bel.ext ?_ _)⟩
end Go.Proofs.YtadhblppeaamlaaGreatDoor
