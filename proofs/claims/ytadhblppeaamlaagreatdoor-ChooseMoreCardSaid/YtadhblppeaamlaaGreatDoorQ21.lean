/- Walks: the case that values choose, in the reference: each way. -/
import Derived.Test.YtadhblppeaamlaaGreatDoorQ19
import Derived.Test.YtadhblppeaamlaaGreatDoorQ20
import Derived.Test.YtadhblppeaamlaaGreatDoorQ08
import Derived.Test.YtadhblppeaamlaaGreatDoorQ07
namespace Go.Proofs.YtadhblppeaamlaaGreatDoor
open Go.RowKit
attribute [local go_sem] Ext.cell Ext.frozen
attribute [local go_sem ↓] Go.wp_at_zero Go.wp_at_succ

set_option maxRecDepth 20000 in
set_option maxHeartbeats 16000000 in
theorem rchoose_sel (x p : Nat → Value) (a b : List (ByteArray × List (List Rel))) (kind : Int) (name : ByteArray) (keys : List ByteArray) (vs : List Vl) (vv : Value) (w : World) (_h : LocC w x a b) (hp0 : p 0 = .int .i64 kind) (hp2 : p 2 = .string name) (hk : RowsOf 2 CaseC w (p 4) keys) (_hkl : keys.length * 40 ≤ 140737488355328)
    (hvv : ValsAt w vv vs) (hfv : FewV1 vs) (_ha : FewC a) (_hb : FewC b) (h1 : decide (7 ≤ kind ∧ kind ≤ 9) = false) :
    Calls Tryz.prog 12 #[.agg #[x 0, x 1, x 2, x 3, x 4, x 5, x 6, x 7, x 8, x 9, x 10, x 11, x 12, x 13, x 14, x 15], .agg #[p 0, p 1, p 2, p 3, p 4, p 5], vv] w fun e w' => e = .returned (.tuple #[.int .i64 0, .int .i64 1]) ∧ Below w.heap.size w w' := by
  have hG : ∀ W, Below w.heap.size w W → Calls Tryz.prog 29 #[vv, .string name] W (GetP W vs name) := fun W g => rget_any vv vs name W (hvv.below g)
  have hs : (valOf vs name).tx.size ≤ 1000 := valOf_tx hfv name
  have HSL : Hid (∀ W, Calls Tryz.prog 30 #[.int .i64 kind] W fun e w' => e = .returned (.bool false) ∧ W = w') := fun W => by have := rselection_any kind W; rwa [h1] at this
  have HG := Lib.hid hG
  rw [Hid] at HG; unfold GetP at HG
  generalize (getV vs name).isSome = ok at HG
  replace HG := Lib.hid HG
  clear hG _h h1 _ha _hb hs hvv hfv
  obtain ⟨cad, cc, cf, cb, coff, hp4, hcr, _, _, _, hcf⟩ := hk
  obtain ⟨n, hn⟩ : ∃ n, keys.length = n := ⟨_, rfl⟩
  rw [hn] at hcr hp4
  rw [hp0, hp2, hp4]
  have HN := Lib.hid hn
  have HCR := Lib.hid hcr
  have HCF := Lib.hid hcf
  clear hn hcr hcf hp0 hp2 hp4
  generalize x 0 = x0 at *
  generalize x 1 = x1 at *
  generalize x 2 = x2 at *
  generalize x 3 = x3 at *
  generalize x 4 = x4 at *
  generalize x 5 = x5 at *
  generalize x 6 = x6 at *
  generalize x 7 = x7 at *
  generalize x 8 = x8 at *
  generalize x 9 = x9 at *
  generalize x 10 = x10 at *
  generalize x 11 = x11 at *
  generalize x 12 = x12 at *
  generalize x 13 = x13 at *
  generalize x 14 = x14 at *
  generalize x 15 = x15 at *
  generalize p 1 = p1 at *
  generalize p 3 = p3 at *
  generalize p 5 = p5 at *
  go_enter Tryz.func12, Tryz.ntmps12
  go_wp2_with fail
  refine (HG.out _ ?_).mono ?_
  · show Bel w _; repeat (first | exact Bel.refl _ | refine Bel.drew ?_ | refine Bel.drewN ?_ _ | refine Bel.alloc ?_ _ | refine Bel.ext ?_ _)
  rintro e W ⟨y, rfl, hbG, hv⟩
  have HBW : Hid (Below w.heap.size w W) := Below.trans (by show Bel w _; exact ((Bel.refl _).alloc _).alloc _) (hbG.mono (by simp; omega))
  have HRL : Hid (W.heap[w.heap.size]? = some (.cells #[x0, x1, x2, x3, x4, x5, x6, x7, x8, x9, x10, x11, x12, x13, x14, x15] 30 (0, 0))) := (hbG.block _ (by simp; omega)).trans ((Below.heap_alloc _ _ _ (by simp)).trans (row_first w _ _))
  have HRP : Hid (W.heap[w.heap.size + 1]? = some (.cells #[.int .i64 kind, p1, .string name, p3, .slice cad n cc, p5] 34 (0, 0))) := (hbG.block _ (by simp)).trans (row_second w _ _ _)
  have hz : w.heap.size + 1 < W.heap.size := by have := hbG.size; simp at this; omega
  obtain ⟨y0, _, y1, y2, _, y3, ad4, c4, _, _, _, y4, _, _, _, _, _⟩ := id hv
  have HV := Lib.hid hv
  rw [y0, y1, y2, y3, y4]
  generalize valOf vs name = v at *
  generalize v.nm = vnm at *
  generalize v.ty = vty at *
  generalize v.tx = vtx at *
  generalize v.dt = vdt at *
  generalize v.li.length = vn at *
  clear hbG hv y0 y1 y2 y3 y4 HG
  have pk0 : W.cell? ⟨w.heap.size + 1, 0, none⟩ = some (.int .i64 kind) := by rw [Lib.cell_of_heap HRP.out]; rfl
  go_wp2_with fail
  refine (HSL.out _).mono ?_
  rintro e W1 ⟨rfl, hW1⟩
  have HB1 : Hid (Below W.heap.size W W1) := by rw [← hW1]; exact (Below.refl _ _).alloc (Nat.le_refl _) _
  have HBW1 : Hid (Below w.heap.size w W1) := HBW.out.trans (HB1.out.mono (by omega))
  clear hW1 pk0
  go_wp2_with fail
  go_ret2
  exact ⟨rfl, HBW1.out⟩
set_option maxRecDepth 20000 in
set_option maxHeartbeats 16000000 in
theorem rchoose_inv (x p : Nat → Value) (a b : List (ByteArray × List (List Rel))) (kind : Int) (name : ByteArray) (keys : List ByteArray) (vs : List Vl) (vv : Value) (w : World) (h : LocC w x a b) (hp0 : p 0 = .int .i64 kind) (hp2 : p 2 = .string name) (hk : RowsOf 2 CaseC w (p 4) keys) (_hkl : keys.length * 40 ≤ 140737488355328)
    (hvv : ValsAt w vv vs) (hfv : FewV1 vs) (ha : FewC a) (hb : FewC b) (h1 : decide (7 ≤ kind ∧ kind ≤ 9) = true) (h2 : validR (rulesV kind a b) = false) :
    Calls Tryz.prog 12 #[.agg #[x 0, x 1, x 2, x 3, x 4, x 5, x 6, x 7, x 8, x 9, x 10, x 11, x 12, x 13, x 14, x 15], .agg #[p 0, p 1, p 2, p 3, p 4, p 5], vv] w fun e w' => e = .returned (.tuple #[.int .i64 0, .int .i64 18]) ∧ Below w.heap.size w w' := by
  have hG : ∀ W, Below w.heap.size w W → Calls Tryz.prog 29 #[vv, .string name] W (GetP W vs name) := fun W g => rget_any vv vs name W (hvv.below g)
  have hs : (valOf vs name).tx.size ≤ 1000 := valOf_tx hfv name
  have HSL : Hid (∀ W, Calls Tryz.prog 30 #[.int .i64 kind] W fun e w' => e = .returned (.bool true) ∧ W = w') := fun W => by have := rselection_any kind W; rwa [h1] at this
  have HRU : Hid (∀ W, Calls Tryz.prog 32 #[.agg #[x 0, x 1, x 2, x 3, x 4, x 5, x 6, x 7, x 8, x 9, x 10, x 11, x 12, x 13, x 14, x 15], .int .i64 kind] W fun e w' => e = .returned (valR x kind) ∧ Below W.heap.size W w') := fun W => rcrules_any x kind W
  have HVA : Hid (∀ W, Below w.heap.size w W → Calls Tryz.prog 31 #[valR x kind] W fun e w' => e = .returned (.bool false) ∧ Below W.heap.size W w') := fun W g => by have := rvalidr_any _ _ W ((rules_at h kind).below g) (few_rules ha hb kind); rwa [h2] at this
  have HG := Lib.hid hG
  rw [Hid] at HG; unfold GetP at HG
  generalize (getV vs name).isSome = ok at HG
  replace HG := Lib.hid HG
  clear hG h h1 h2 ha hb hs hvv hfv
  obtain ⟨cad, cc, cf, cb, coff, hp4, hcr, _, _, _, hcf⟩ := hk
  obtain ⟨n, hn⟩ : ∃ n, keys.length = n := ⟨_, rfl⟩
  rw [hn] at hcr hp4
  rw [hp0, hp2, hp4]
  have HN := Lib.hid hn
  have HCR := Lib.hid hcr
  have HCF := Lib.hid hcf
  clear hn hcr hcf hp0 hp2 hp4
  generalize valR x kind = vr at *
  generalize x 0 = x0 at *
  generalize x 1 = x1 at *
  generalize x 2 = x2 at *
  generalize x 3 = x3 at *
  generalize x 4 = x4 at *
  generalize x 5 = x5 at *
  generalize x 6 = x6 at *
  generalize x 7 = x7 at *
  generalize x 8 = x8 at *
  generalize x 9 = x9 at *
  generalize x 10 = x10 at *
  generalize x 11 = x11 at *
  generalize x 12 = x12 at *
  generalize x 13 = x13 at *
  generalize x 14 = x14 at *
  generalize x 15 = x15 at *
  generalize p 1 = p1 at *
  generalize p 3 = p3 at *
  generalize p 5 = p5 at *
  go_enter Tryz.func12, Tryz.ntmps12
  go_wp2_with fail
  refine (HG.out _ ?_).mono ?_
  · show Bel w _; repeat (first | exact Bel.refl _ | refine Bel.drew ?_ | refine Bel.drewN ?_ _ | refine Bel.alloc ?_ _ | refine Bel.ext ?_ _)
  rintro e W ⟨y, rfl, hbG, hv⟩
  have HBW : Hid (Below w.heap.size w W) := Below.trans (by show Bel w _; exact ((Bel.refl _).alloc _).alloc _) (hbG.mono (by simp; omega))
  have HRL : Hid (W.heap[w.heap.size]? = some (.cells #[x0, x1, x2, x3, x4, x5, x6, x7, x8, x9, x10, x11, x12, x13, x14, x15] 30 (0, 0))) := (hbG.block _ (by simp; omega)).trans ((Below.heap_alloc _ _ _ (by simp)).trans (row_first w _ _))
  have HRP : Hid (W.heap[w.heap.size + 1]? = some (.cells #[.int .i64 kind, p1, .string name, p3, .slice cad n cc, p5] 34 (0, 0))) := (hbG.block _ (by simp)).trans (row_second w _ _ _)
  have hz : w.heap.size + 1 < W.heap.size := by have := hbG.size; simp at this; omega
  obtain ⟨y0, _, y1, y2, _, y3, ad4, c4, _, _, _, y4, _, _, _, _, _⟩ := id hv
  have HV := Lib.hid hv
  rw [y0, y1, y2, y3, y4]
  generalize valOf vs name = v at *
  generalize v.nm = vnm at *
  generalize v.ty = vty at *
  generalize v.tx = vtx at *
  generalize v.dt = vdt at *
  generalize v.li.length = vn at *
  clear hbG hv y0 y1 y2 y3 y4 HG
  have pk0 : W.cell? ⟨w.heap.size + 1, 0, none⟩ = some (.int .i64 kind) := by rw [Lib.cell_of_heap HRP.out]; rfl
  go_wp2_with fail
  refine (HSL.out _).mono ?_
  rintro e W1 ⟨rfl, hW1⟩
  have HB1 : Hid (Below W.heap.size W W1) := by rw [← hW1]; exact (Below.refl _ _).alloc (Nat.le_refl _) _
  have HBW1 : Hid (Below w.heap.size w W1) := HBW.out.trans (HB1.out.mono (by omega))
  have hz1 : W.heap.size < W1.heap.size := by rw [← hW1]; simp
  have HRV1 : Hid (W1.heap[W.heap.size]? = some (.cells #[.string vnm, .int .i64 vty, .string vtx, .int .i64 vdt, .slice ad4 vn c4] 46 (0, 0))) := by rw [← hW1]; exact row_first W _ _
  have HRL1 : Hid (W1.heap[w.heap.size]? = some (.cells #[x0, x1, x2, x3, x4, x5, x6, x7, x8, x9, x10, x11, x12, x13, x14, x15] 30 (0, 0))) := (HB1.out.block _ (by omega)).trans HRL.out
  have HRP1 : Hid (W1.heap[w.heap.size + 1]? = some (.cells #[.int .i64 kind, p1, .string name, p3, .slice cad n cc, p5] 34 (0, 0))) := (HB1.out.block _ (by omega)).trans HRP.out
  clear hW1 pk0
  have k0 : W1.cell? ⟨w.heap.size, 0, none⟩ = some x0 := by rw [Lib.cell_of_heap HRL1.out]; rfl
  have k1 : W1.cell? ⟨w.heap.size, 1, none⟩ = some x1 := by rw [Lib.cell_of_heap HRL1.out]; rfl
  have k2 : W1.cell? ⟨w.heap.size, 2, none⟩ = some x2 := by rw [Lib.cell_of_heap HRL1.out]; rfl
  have k3 : W1.cell? ⟨w.heap.size, 3, none⟩ = some x3 := by rw [Lib.cell_of_heap HRL1.out]; rfl
  have k4 : W1.cell? ⟨w.heap.size, 4, none⟩ = some x4 := by rw [Lib.cell_of_heap HRL1.out]; rfl
  have k5 : W1.cell? ⟨w.heap.size, 5, none⟩ = some x5 := by rw [Lib.cell_of_heap HRL1.out]; rfl
  have k6 : W1.cell? ⟨w.heap.size, 6, none⟩ = some x6 := by rw [Lib.cell_of_heap HRL1.out]; rfl
  have k7 : W1.cell? ⟨w.heap.size, 7, none⟩ = some x7 := by rw [Lib.cell_of_heap HRL1.out]; rfl
  have k8 : W1.cell? ⟨w.heap.size, 8, none⟩ = some x8 := by rw [Lib.cell_of_heap HRL1.out]; rfl
  have k9 : W1.cell? ⟨w.heap.size, 9, none⟩ = some x9 := by rw [Lib.cell_of_heap HRL1.out]; rfl
  have k10 : W1.cell? ⟨w.heap.size, 10, none⟩ = some x10 := by rw [Lib.cell_of_heap HRL1.out]; rfl
  have k11 : W1.cell? ⟨w.heap.size, 11, none⟩ = some x11 := by rw [Lib.cell_of_heap HRL1.out]; rfl
  have k12 : W1.cell? ⟨w.heap.size, 12, none⟩ = some x12 := by rw [Lib.cell_of_heap HRL1.out]; rfl
  have k13 : W1.cell? ⟨w.heap.size, 13, none⟩ = some x13 := by rw [Lib.cell_of_heap HRL1.out]; rfl
  have k14 : W1.cell? ⟨w.heap.size, 14, none⟩ = some x14 := by rw [Lib.cell_of_heap HRL1.out]; rfl
  have k15 : W1.cell? ⟨w.heap.size, 15, none⟩ = some x15 := by rw [Lib.cell_of_heap HRL1.out]; rfl
  have q0 : W1.cell? ⟨w.heap.size + 1, 0, none⟩ = some (.int .i64 kind) := by rw [Lib.cell_of_heap HRP1.out]; rfl
  have q4 : W1.cell? ⟨w.heap.size + 1, 4, none⟩ = some (.slice cad n cc) := by rw [Lib.cell_of_heap HRP1.out]; rfl
  have r0 : W1.cell? ⟨W.heap.size, 0, none⟩ = some (.string vnm) := by rw [Lib.cell_of_heap HRV1.out]; rfl
  have r1 : W1.cell? ⟨W.heap.size, 1, none⟩ = some (.int .i64 vty) := by rw [Lib.cell_of_heap HRV1.out]; rfl
  have r2 : W1.cell? ⟨W.heap.size, 2, none⟩ = some (.string vtx) := by rw [Lib.cell_of_heap HRV1.out]; rfl
  have r3 : W1.cell? ⟨W.heap.size, 3, none⟩ = some (.int .i64 vdt) := by rw [Lib.cell_of_heap HRV1.out]; rfl
  have r4 : W1.cell? ⟨W.heap.size, 4, none⟩ = some (.slice ad4 vn c4) := by rw [Lib.cell_of_heap HRV1.out]; rfl
  have l1 : w.heap.size < W1.heap.size := by omega
  have l2 : w.heap.size + 1 < W1.heap.size := by omega
  go_wp2_with fail
  refine (Calls.toExt (HRU.out _)).mono ?_
  rintro e _ ⟨rfl, u1, rfl⟩
  go_wp2_with fail
  refine (Calls.toExt (HVA.out _ ?_)).mono ?_
  · show Bel w _; exact Bel.ext HBW1.out _
  rintro e _ ⟨rfl, u2, rfl⟩
  go_wp2_with fail
  go_ret2
  exact ⟨rfl, (by show Bel w _; exact Bel.ext (Bel.ext HBW1.out _) _)⟩
set_option maxRecDepth 20000 in
set_option maxHeartbeats 16000000 in
theorem rchoose_miss (x p : Nat → Value) (a b : List (ByteArray × List (List Rel))) (kind : Int) (name : ByteArray) (keys : List ByteArray) (vs : List Vl) (vv : Value) (w : World) (h : LocC w x a b) (hp0 : p 0 = .int .i64 kind) (hp2 : p 2 = .string name) (hk : RowsOf 2 CaseC w (p 4) keys) (_hkl : keys.length * 40 ≤ 140737488355328)
    (hvv : ValsAt w vv vs) (hfv : FewV1 vs) (ha : FewC a) (hb : FewC b) (h1 : decide (7 ≤ kind ∧ kind ≤ 9) = true) (h2 : validR (rulesV kind a b) = true) (h5 : (getV vs name).isSome = false) :
    Calls Tryz.prog 12 #[.agg #[x 0, x 1, x 2, x 3, x 4, x 5, x 6, x 7, x 8, x 9, x 10, x 11, x 12, x 13, x 14, x 15], .agg #[p 0, p 1, p 2, p 3, p 4, p 5], vv] w fun e w' => e = .returned (.tuple #[.int .i64 0, .int .i64 12]) ∧ Below w.heap.size w w' := by
  have hG : ∀ W, Below w.heap.size w W → Calls Tryz.prog 29 #[vv, .string name] W (GetP W vs name) := fun W g => rget_any vv vs name W (hvv.below g)
  have hs : (valOf vs name).tx.size ≤ 1000 := valOf_tx hfv name
  have HSL : Hid (∀ W, Calls Tryz.prog 30 #[.int .i64 kind] W fun e w' => e = .returned (.bool true) ∧ W = w') := fun W => by have := rselection_any kind W; rwa [h1] at this
  have HRU : Hid (∀ W, Calls Tryz.prog 32 #[.agg #[x 0, x 1, x 2, x 3, x 4, x 5, x 6, x 7, x 8, x 9, x 10, x 11, x 12, x 13, x 14, x 15], .int .i64 kind] W fun e w' => e = .returned (valR x kind) ∧ Below W.heap.size W w') := fun W => rcrules_any x kind W
  have HVA : Hid (∀ W, Below w.heap.size w W → Calls Tryz.prog 31 #[valR x kind] W fun e w' => e = .returned (.bool true) ∧ Below W.heap.size W w') := fun W g => by have := rvalidr_any _ _ W ((rules_at h kind).below g) (few_rules ha hb kind); rwa [h2] at this
  have HG := Lib.hid hG
  rw [Hid] at HG; unfold GetP at HG; rw [h5] at HG; replace HG := Lib.hid HG
  clear hG h h1 h2 h5 ha hb hs hvv hfv
  obtain ⟨cad, cc, cf, cb, coff, hp4, hcr, _, _, _, hcf⟩ := hk
  obtain ⟨n, hn⟩ : ∃ n, keys.length = n := ⟨_, rfl⟩
  rw [hn] at hcr hp4
  rw [hp0, hp2, hp4]
  have HN := Lib.hid hn
  have HCR := Lib.hid hcr
  have HCF := Lib.hid hcf
  clear hn hcr hcf hp0 hp2 hp4
  generalize valR x kind = vr at *
  generalize x 0 = x0 at *
  generalize x 1 = x1 at *
  generalize x 2 = x2 at *
  generalize x 3 = x3 at *
  generalize x 4 = x4 at *
  generalize x 5 = x5 at *
  generalize x 6 = x6 at *
  generalize x 7 = x7 at *
  generalize x 8 = x8 at *
  generalize x 9 = x9 at *
  generalize x 10 = x10 at *
  generalize x 11 = x11 at *
  generalize x 12 = x12 at *
  generalize x 13 = x13 at *
  generalize x 14 = x14 at *
  generalize x 15 = x15 at *
  generalize p 1 = p1 at *
  generalize p 3 = p3 at *
  generalize p 5 = p5 at *
  go_enter Tryz.func12, Tryz.ntmps12
  go_wp2_with fail
  refine (HG.out _ ?_).mono ?_
  · show Bel w _; repeat (first | exact Bel.refl _ | refine Bel.drew ?_ | refine Bel.drewN ?_ _ | refine Bel.alloc ?_ _ | refine Bel.ext ?_ _)
  rintro e W ⟨y, rfl, hbG, hv⟩
  have HBW : Hid (Below w.heap.size w W) := Below.trans (by show Bel w _; exact ((Bel.refl _).alloc _).alloc _) (hbG.mono (by simp; omega))
  have HRL : Hid (W.heap[w.heap.size]? = some (.cells #[x0, x1, x2, x3, x4, x5, x6, x7, x8, x9, x10, x11, x12, x13, x14, x15] 30 (0, 0))) := (hbG.block _ (by simp; omega)).trans ((Below.heap_alloc _ _ _ (by simp)).trans (row_first w _ _))
  have HRP : Hid (W.heap[w.heap.size + 1]? = some (.cells #[.int .i64 kind, p1, .string name, p3, .slice cad n cc, p5] 34 (0, 0))) := (hbG.block _ (by simp)).trans (row_second w _ _ _)
  have hz : w.heap.size + 1 < W.heap.size := by have := hbG.size; simp at this; omega
  obtain ⟨y0, _, y1, y2, _, y3, ad4, c4, _, _, _, y4, _, _, _, _, _⟩ := id hv
  have HV := Lib.hid hv
  rw [y0, y1, y2, y3, y4]
  generalize valOf vs name = v at *
  generalize v.nm = vnm at *
  generalize v.ty = vty at *
  generalize v.tx = vtx at *
  generalize v.dt = vdt at *
  generalize v.li.length = vn at *
  clear hbG hv y0 y1 y2 y3 y4 HG
  have pk0 : W.cell? ⟨w.heap.size + 1, 0, none⟩ = some (.int .i64 kind) := by rw [Lib.cell_of_heap HRP.out]; rfl
  go_wp2_with fail
  refine (HSL.out _).mono ?_
  rintro e W1 ⟨rfl, hW1⟩
  have HB1 : Hid (Below W.heap.size W W1) := by rw [← hW1]; exact (Below.refl _ _).alloc (Nat.le_refl _) _
  have HBW1 : Hid (Below w.heap.size w W1) := HBW.out.trans (HB1.out.mono (by omega))
  have hz1 : W.heap.size < W1.heap.size := by rw [← hW1]; simp
  have HRV1 : Hid (W1.heap[W.heap.size]? = some (.cells #[.string vnm, .int .i64 vty, .string vtx, .int .i64 vdt, .slice ad4 vn c4] 46 (0, 0))) := by rw [← hW1]; exact row_first W _ _
  have HRL1 : Hid (W1.heap[w.heap.size]? = some (.cells #[x0, x1, x2, x3, x4, x5, x6, x7, x8, x9, x10, x11, x12, x13, x14, x15] 30 (0, 0))) := (HB1.out.block _ (by omega)).trans HRL.out
  have HRP1 : Hid (W1.heap[w.heap.size + 1]? = some (.cells #[.int .i64 kind, p1, .string name, p3, .slice cad n cc, p5] 34 (0, 0))) := (HB1.out.block _ (by omega)).trans HRP.out
  clear hW1 pk0
  have k0 : W1.cell? ⟨w.heap.size, 0, none⟩ = some x0 := by rw [Lib.cell_of_heap HRL1.out]; rfl
  have k1 : W1.cell? ⟨w.heap.size, 1, none⟩ = some x1 := by rw [Lib.cell_of_heap HRL1.out]; rfl
  have k2 : W1.cell? ⟨w.heap.size, 2, none⟩ = some x2 := by rw [Lib.cell_of_heap HRL1.out]; rfl
  have k3 : W1.cell? ⟨w.heap.size, 3, none⟩ = some x3 := by rw [Lib.cell_of_heap HRL1.out]; rfl
  have k4 : W1.cell? ⟨w.heap.size, 4, none⟩ = some x4 := by rw [Lib.cell_of_heap HRL1.out]; rfl
  have k5 : W1.cell? ⟨w.heap.size, 5, none⟩ = some x5 := by rw [Lib.cell_of_heap HRL1.out]; rfl
  have k6 : W1.cell? ⟨w.heap.size, 6, none⟩ = some x6 := by rw [Lib.cell_of_heap HRL1.out]; rfl
  have k7 : W1.cell? ⟨w.heap.size, 7, none⟩ = some x7 := by rw [Lib.cell_of_heap HRL1.out]; rfl
  have k8 : W1.cell? ⟨w.heap.size, 8, none⟩ = some x8 := by rw [Lib.cell_of_heap HRL1.out]; rfl
  have k9 : W1.cell? ⟨w.heap.size, 9, none⟩ = some x9 := by rw [Lib.cell_of_heap HRL1.out]; rfl
  have k10 : W1.cell? ⟨w.heap.size, 10, none⟩ = some x10 := by rw [Lib.cell_of_heap HRL1.out]; rfl
  have k11 : W1.cell? ⟨w.heap.size, 11, none⟩ = some x11 := by rw [Lib.cell_of_heap HRL1.out]; rfl
  have k12 : W1.cell? ⟨w.heap.size, 12, none⟩ = some x12 := by rw [Lib.cell_of_heap HRL1.out]; rfl
  have k13 : W1.cell? ⟨w.heap.size, 13, none⟩ = some x13 := by rw [Lib.cell_of_heap HRL1.out]; rfl
  have k14 : W1.cell? ⟨w.heap.size, 14, none⟩ = some x14 := by rw [Lib.cell_of_heap HRL1.out]; rfl
  have k15 : W1.cell? ⟨w.heap.size, 15, none⟩ = some x15 := by rw [Lib.cell_of_heap HRL1.out]; rfl
  have q0 : W1.cell? ⟨w.heap.size + 1, 0, none⟩ = some (.int .i64 kind) := by rw [Lib.cell_of_heap HRP1.out]; rfl
  have q4 : W1.cell? ⟨w.heap.size + 1, 4, none⟩ = some (.slice cad n cc) := by rw [Lib.cell_of_heap HRP1.out]; rfl
  have r0 : W1.cell? ⟨W.heap.size, 0, none⟩ = some (.string vnm) := by rw [Lib.cell_of_heap HRV1.out]; rfl
  have r1 : W1.cell? ⟨W.heap.size, 1, none⟩ = some (.int .i64 vty) := by rw [Lib.cell_of_heap HRV1.out]; rfl
  have r2 : W1.cell? ⟨W.heap.size, 2, none⟩ = some (.string vtx) := by rw [Lib.cell_of_heap HRV1.out]; rfl
  have r3 : W1.cell? ⟨W.heap.size, 3, none⟩ = some (.int .i64 vdt) := by rw [Lib.cell_of_heap HRV1.out]; rfl
  have r4 : W1.cell? ⟨W.heap.size, 4, none⟩ = some (.slice ad4 vn c4) := by rw [Lib.cell_of_heap HRV1.out]; rfl
  have l1 : w.heap.size < W1.heap.size := by omega
  have l2 : w.heap.size + 1 < W1.heap.size := by omega
  go_wp2_with fail
  refine (Calls.toExt (HRU.out _)).mono ?_
  rintro e _ ⟨rfl, u1, rfl⟩
  go_wp2_with fail
  refine (Calls.toExt (HVA.out _ ?_)).mono ?_
  · show Bel w _; exact Bel.ext HBW1.out _
  rintro e _ ⟨rfl, u2, rfl⟩
  go_wp2_with fail
  go_ret2
  exact ⟨rfl, (by show Bel w _; exact Bel.ext (Bel.ext HBW1.out _) _)⟩
set_option maxRecDepth 20000 in
set_option maxHeartbeats 16000000 in
theorem rchoose_type (x p : Nat → Value) (a b : List (ByteArray × List (List Rel))) (kind : Int) (name : ByteArray) (keys : List ByteArray) (vs : List Vl) (vv : Value) (w : World) (h : LocC w x a b) (hp0 : p 0 = .int .i64 kind) (hp2 : p 2 = .string name) (hk : RowsOf 2 CaseC w (p 4) keys) (_hkl : keys.length * 40 ≤ 140737488355328)
    (hvv : ValsAt w vv vs) (hfv : FewV1 vs) (ha : FewC a) (hb : FewC b) (h1 : decide (7 ≤ kind ∧ kind ≤ 9) = true) (h2 : validR (rulesV kind a b) = true) (h5 : (getV vs name).isSome = true) (h3 : suitV kind (valOf vs name) = false) :
    Calls Tryz.prog 12 #[.agg #[x 0, x 1, x 2, x 3, x 4, x 5, x 6, x 7, x 8, x 9, x 10, x 11, x 12, x 13, x 14, x 15], .agg #[p 0, p 1, p 2, p 3, p 4, p 5], vv] w fun e w' => e = .returned (.tuple #[.int .i64 0, .int .i64 11]) ∧ Below w.heap.size w w' := by
  have hG : ∀ W, Below w.heap.size w W → Calls Tryz.prog 29 #[vv, .string name] W (GetP W vs name) := fun W g => rget_any vv vs name W (hvv.below g)
  have hs : (valOf vs name).tx.size ≤ 1000 := valOf_tx hfv name
  have HSL : Hid (∀ W, Calls Tryz.prog 30 #[.int .i64 kind] W fun e w' => e = .returned (.bool true) ∧ W = w') := fun W => by have := rselection_any kind W; rwa [h1] at this
  have HRU : Hid (∀ W, Calls Tryz.prog 32 #[.agg #[x 0, x 1, x 2, x 3, x 4, x 5, x 6, x 7, x 8, x 9, x 10, x 11, x 12, x 13, x 14, x 15], .int .i64 kind] W fun e w' => e = .returned (valR x kind) ∧ Below W.heap.size W w') := fun W => rcrules_any x kind W
  have HVA : Hid (∀ W, Below w.heap.size w W → Calls Tryz.prog 31 #[valR x kind] W fun e w' => e = .returned (.bool true) ∧ Below W.heap.size W w') := fun W g => by have := rvalidr_any _ _ W ((rules_at h kind).below g) (few_rules ha hb kind); rwa [h2] at this
  have HSU : Hid (∀ y W, ValC W y (valOf vs name) → Calls Tryz.prog 33 #[.int .i64 kind, .agg #[y 0, y 1, y 2, y 3, y 4]] W fun e w' => e = .returned (.bool false) ∧ Below W.heap.size W w') := fun y W g => by have := rsuitable_any y kind _ W g hs; rwa [h3] at this
  have HG := Lib.hid hG
  rw [Hid] at HG; unfold GetP at HG; rw [h5] at HG; replace HG := Lib.hid HG
  clear hG h h1 h2 h3 h5 ha hb hs hvv hfv
  obtain ⟨cad, cc, cf, cb, coff, hp4, hcr, _, _, _, hcf⟩ := hk
  obtain ⟨n, hn⟩ : ∃ n, keys.length = n := ⟨_, rfl⟩
  rw [hn] at hcr hp4
  rw [hp0, hp2, hp4]
  have HN := Lib.hid hn
  have HCR := Lib.hid hcr
  have HCF := Lib.hid hcf
  clear hn hcr hcf hp0 hp2 hp4
  generalize valR x kind = vr at *
  generalize x 0 = x0 at *
  generalize x 1 = x1 at *
  generalize x 2 = x2 at *
  generalize x 3 = x3 at *
  generalize x 4 = x4 at *
  generalize x 5 = x5 at *
  generalize x 6 = x6 at *
  generalize x 7 = x7 at *
  generalize x 8 = x8 at *
  generalize x 9 = x9 at *
  generalize x 10 = x10 at *
  generalize x 11 = x11 at *
  generalize x 12 = x12 at *
  generalize x 13 = x13 at *
  generalize x 14 = x14 at *
  generalize x 15 = x15 at *
  generalize p 1 = p1 at *
  generalize p 3 = p3 at *
  generalize p 5 = p5 at *
  go_enter Tryz.func12, Tryz.ntmps12
  go_wp2_with fail
  refine (HG.out _ ?_).mono ?_
  · show Bel w _; repeat (first | exact Bel.refl _ | refine Bel.drew ?_ | refine Bel.drewN ?_ _ | refine Bel.alloc ?_ _ | refine Bel.ext ?_ _)
  rintro e W ⟨y, rfl, hbG, hv⟩
  have HBW : Hid (Below w.heap.size w W) := Below.trans (by show Bel w _; exact ((Bel.refl _).alloc _).alloc _) (hbG.mono (by simp; omega))
  have HRL : Hid (W.heap[w.heap.size]? = some (.cells #[x0, x1, x2, x3, x4, x5, x6, x7, x8, x9, x10, x11, x12, x13, x14, x15] 30 (0, 0))) := (hbG.block _ (by simp; omega)).trans ((Below.heap_alloc _ _ _ (by simp)).trans (row_first w _ _))
  have HRP : Hid (W.heap[w.heap.size + 1]? = some (.cells #[.int .i64 kind, p1, .string name, p3, .slice cad n cc, p5] 34 (0, 0))) := (hbG.block _ (by simp)).trans (row_second w _ _ _)
  have hz : w.heap.size + 1 < W.heap.size := by have := hbG.size; simp at this; omega
  obtain ⟨y0, _, y1, y2, _, y3, ad4, c4, _, _, _, y4, _, _, _, _, _⟩ := id hv
  have HV := Lib.hid hv
  rw [y0, y1, y2, y3, y4]
  have HSUY := HSU.out y
  rw [y0, y1, y2, y3, y4] at HSUY
  replace HSUY := Lib.hid HSUY
  clear HSU
  generalize valOf vs name = v at *
  generalize v.nm = vnm at *
  generalize v.ty = vty at *
  generalize v.tx = vtx at *
  generalize v.dt = vdt at *
  generalize v.li.length = vn at *
  clear hbG hv y0 y1 y2 y3 y4 HG
  have pk0 : W.cell? ⟨w.heap.size + 1, 0, none⟩ = some (.int .i64 kind) := by rw [Lib.cell_of_heap HRP.out]; rfl
  go_wp2_with fail
  refine (HSL.out _).mono ?_
  rintro e W1 ⟨rfl, hW1⟩
  have HB1 : Hid (Below W.heap.size W W1) := by rw [← hW1]; exact (Below.refl _ _).alloc (Nat.le_refl _) _
  have HBW1 : Hid (Below w.heap.size w W1) := HBW.out.trans (HB1.out.mono (by omega))
  have hz1 : W.heap.size < W1.heap.size := by rw [← hW1]; simp
  have HRV1 : Hid (W1.heap[W.heap.size]? = some (.cells #[.string vnm, .int .i64 vty, .string vtx, .int .i64 vdt, .slice ad4 vn c4] 46 (0, 0))) := by rw [← hW1]; exact row_first W _ _
  have HRL1 : Hid (W1.heap[w.heap.size]? = some (.cells #[x0, x1, x2, x3, x4, x5, x6, x7, x8, x9, x10, x11, x12, x13, x14, x15] 30 (0, 0))) := (HB1.out.block _ (by omega)).trans HRL.out
  have HRP1 : Hid (W1.heap[w.heap.size + 1]? = some (.cells #[.int .i64 kind, p1, .string name, p3, .slice cad n cc, p5] 34 (0, 0))) := (HB1.out.block _ (by omega)).trans HRP.out
  clear hW1 pk0
  have k0 : W1.cell? ⟨w.heap.size, 0, none⟩ = some x0 := by rw [Lib.cell_of_heap HRL1.out]; rfl
  have k1 : W1.cell? ⟨w.heap.size, 1, none⟩ = some x1 := by rw [Lib.cell_of_heap HRL1.out]; rfl
  have k2 : W1.cell? ⟨w.heap.size, 2, none⟩ = some x2 := by rw [Lib.cell_of_heap HRL1.out]; rfl
  have k3 : W1.cell? ⟨w.heap.size, 3, none⟩ = some x3 := by rw [Lib.cell_of_heap HRL1.out]; rfl
  have k4 : W1.cell? ⟨w.heap.size, 4, none⟩ = some x4 := by rw [Lib.cell_of_heap HRL1.out]; rfl
  have k5 : W1.cell? ⟨w.heap.size, 5, none⟩ = some x5 := by rw [Lib.cell_of_heap HRL1.out]; rfl
  have k6 : W1.cell? ⟨w.heap.size, 6, none⟩ = some x6 := by rw [Lib.cell_of_heap HRL1.out]; rfl
  have k7 : W1.cell? ⟨w.heap.size, 7, none⟩ = some x7 := by rw [Lib.cell_of_heap HRL1.out]; rfl
  have k8 : W1.cell? ⟨w.heap.size, 8, none⟩ = some x8 := by rw [Lib.cell_of_heap HRL1.out]; rfl
  have k9 : W1.cell? ⟨w.heap.size, 9, none⟩ = some x9 := by rw [Lib.cell_of_heap HRL1.out]; rfl
  have k10 : W1.cell? ⟨w.heap.size, 10, none⟩ = some x10 := by rw [Lib.cell_of_heap HRL1.out]; rfl
  have k11 : W1.cell? ⟨w.heap.size, 11, none⟩ = some x11 := by rw [Lib.cell_of_heap HRL1.out]; rfl
  have k12 : W1.cell? ⟨w.heap.size, 12, none⟩ = some x12 := by rw [Lib.cell_of_heap HRL1.out]; rfl
  have k13 : W1.cell? ⟨w.heap.size, 13, none⟩ = some x13 := by rw [Lib.cell_of_heap HRL1.out]; rfl
  have k14 : W1.cell? ⟨w.heap.size, 14, none⟩ = some x14 := by rw [Lib.cell_of_heap HRL1.out]; rfl
  have k15 : W1.cell? ⟨w.heap.size, 15, none⟩ = some x15 := by rw [Lib.cell_of_heap HRL1.out]; rfl
  have q0 : W1.cell? ⟨w.heap.size + 1, 0, none⟩ = some (.int .i64 kind) := by rw [Lib.cell_of_heap HRP1.out]; rfl
  have q4 : W1.cell? ⟨w.heap.size + 1, 4, none⟩ = some (.slice cad n cc) := by rw [Lib.cell_of_heap HRP1.out]; rfl
  have r0 : W1.cell? ⟨W.heap.size, 0, none⟩ = some (.string vnm) := by rw [Lib.cell_of_heap HRV1.out]; rfl
  have r1 : W1.cell? ⟨W.heap.size, 1, none⟩ = some (.int .i64 vty) := by rw [Lib.cell_of_heap HRV1.out]; rfl
  have r2 : W1.cell? ⟨W.heap.size, 2, none⟩ = some (.string vtx) := by rw [Lib.cell_of_heap HRV1.out]; rfl
  have r3 : W1.cell? ⟨W.heap.size, 3, none⟩ = some (.int .i64 vdt) := by rw [Lib.cell_of_heap HRV1.out]; rfl
  have r4 : W1.cell? ⟨W.heap.size, 4, none⟩ = some (.slice ad4 vn c4) := by rw [Lib.cell_of_heap HRV1.out]; rfl
  have l1 : w.heap.size < W1.heap.size := by omega
  have l2 : w.heap.size + 1 < W1.heap.size := by omega
  go_wp2_with fail
  refine (Calls.toExt (HRU.out _)).mono ?_
  rintro e _ ⟨rfl, u1, rfl⟩
  go_wp2_with fail
  refine (Calls.toExt (HVA.out _ ?_)).mono ?_
  · show Bel w _; exact Bel.ext HBW1.out _
  rintro e _ ⟨rfl, u2, rfl⟩
  have l3 : w.heap.size < u1.1.heap.size := by have := u1.2.size; omega
  have l4 : w.heap.size + 1 < u1.1.heap.size := by have := u1.2.size; omega
  have l5 : W.heap.size < u1.1.heap.size := by have := u1.2.size; omega
  go_wp2_with fail
  refine (HSUY.out _ ?_).mono ?_
  · exact (HV.out.below (HB1.out.trans ((u1.2.trans (u2.2.mono u1.2.size)).mono HB1.out.size)))
  rintro e W3 ⟨rfl, hb3⟩
  have HB3 : Hid (Below W1.heap.size W1 W3) := (u1.2.trans (u2.2.mono u1.2.size)).trans (hb3.mono (by have := u1.2.size; have := u2.2.size; omega))
  clear hb3
  have HBW3 : Hid (Below w.heap.size w W3) := HBW1.out.trans (HB3.out.mono (by omega))
  go_wp2_with fail
  go_ret2
  exact ⟨rfl, HBW3.out⟩
end Go.Proofs.YtadhblppeaamlaaGreatDoor
