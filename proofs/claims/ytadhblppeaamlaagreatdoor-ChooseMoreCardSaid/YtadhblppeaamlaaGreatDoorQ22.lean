/- Walks: the case that values choose, in the reference: each way. -/
import Derived.Test.YtadhblppeaamlaaGreatDoorQ19
import Derived.Test.YtadhblppeaamlaaGreatDoorQ20
import Derived.Test.YtadhblppeaamlaaGreatDoorQ08
import Derived.Test.YtadhblppeaamlaaGreatDoorQ07
namespace Go.Proofs.YtadhblppeaamlaaGreatDoor
open Go.RowKit
attribute [local go_sem] Ext.cell Ext.frozen
attribute [local go_sem ↓] Go.wp_at_zero Go.wp_at_succ

set_option maxRecDepth 20000 in
set_option maxHeartbeats 16000000 in
theorem rchoose_none (x p : Nat → Value) (a b : List (ByteArray × List (List Rel))) (kind : Int) (name : ByteArray) (keys : List ByteArray) (vs : List Vl) (vv : Value) (w : World) (h : LocC w x a b) (hp0 : p 0 = .int .i64 kind) (hp2 : p 2 = .string name) (hk : RowsOf 2 CaseC w (p 4) keys) (hkl : keys.length * 40 ≤ 140737488355328)
    (hvv : ValsAt w vv vs) (hfv : FewV1 vs) (ha : FewC a) (hb : FewC b) (h1 : decide (7 ≤ kind ∧ kind ≤ 9) = true) (h2 : validR (rulesV kind a b) = true) (h5 : (getV vs name).isSome = true) (h3 : suitV kind (valOf vs name) = true) (h4 : firstK keys (wantV kind (rulesV kind a b) (valOf vs name).tx) = -1) :
    Calls Tryz.prog 12 #[.agg #[x 0, x 1, x 2, x 3, x 4, x 5, x 6, x 7, x 8, x 9, x 10, x 11, x 12, x 13, x 14, x 15], .agg #[p 0, p 1, p 2, p 3, p 4, p 5], vv] w fun e w' => e = .returned (.tuple #[.int .i64 0, .int .i64 13]) ∧ Below w.heap.size w w' := by
  have hG : ∀ W, Below w.heap.size w W → Calls Tryz.prog 29 #[vv, .string name] W (GetP W vs name) := fun W g => rget_any vv vs name W (hvv.below g)
  have hs : (valOf vs name).tx.size ≤ 1000 := valOf_tx hfv name
  have HSL : Hid (∀ W, Calls Tryz.prog 30 #[.int .i64 kind] W fun e w' => e = .returned (.bool true) ∧ W = w') := fun W => by have := rselection_any kind W; rwa [h1] at this
  have HRU : Hid (∀ W, Calls Tryz.prog 32 #[.agg #[x 0, x 1, x 2, x 3, x 4, x 5, x 6, x 7, x 8, x 9, x 10, x 11, x 12, x 13, x 14, x 15], .int .i64 kind] W fun e w' => e = .returned (valR x kind) ∧ Below W.heap.size W w') := fun W => rcrules_any x kind W
  have HVA : Hid (∀ W, Below w.heap.size w W → Calls Tryz.prog 31 #[valR x kind] W fun e w' => e = .returned (.bool true) ∧ Below W.heap.size W w') := fun W g => by have := rvalidr_any _ _ W ((rules_at h kind).below g) (few_rules ha hb kind); rwa [h2] at this
  have HSU : Hid (∀ y W, ValC W y (valOf vs name) → Calls Tryz.prog 33 #[.int .i64 kind, .agg #[y 0, y 1, y 2, y 3, y 4]] W fun e w' => e = .returned (.bool true) ∧ Below W.heap.size W w') := fun y W g => by have := rsuitable_any y kind _ W g hs; rwa [h3] at this
  have HKY : Hid (∀ W, Below w.heap.size w W → Calls Tryz.prog 14 #[.agg #[p 0, p 1, p 2, p 3, p 4, p 5]] W (WantP W keys)) := fun W g => rkeys_any p keys W (hk.map g fun _ _ h => h) hkl
  rw [Hid, hp0, hp2] at HKY
  replace HKY := Lib.hid HKY
  have HWN : Hid (∀ y W, Below w.heap.size w W → ValC W y (valOf vs name) → Calls Tryz.prog 35 #[.agg #[x 0, x 1, x 2, x 3, x 4, x 5, x 6, x 7, x 8, x 9, x 10, x 11, x 12, x 13, x 14, x 15], .int .i64 kind, .agg #[y 0, y 1, y 2, y 3, y 4]] W (WantP W (wantV kind (rulesV kind a b) (valOf vs name).tx))) := fun y W g hv => rwanted_any x y a b kind _ W (h.below g) hv ha hb hs
  have HFI : Hid (∀ W kad kn kc ad n c, Sl W kad kn (strs keys) → Sl W ad n (strs (wantV kind (rulesV kind a b) (valOf vs name).tx)) → Calls Tryz.prog 34 #[.slice kad kn kc, .slice ad n c] W fun e w' => e = .returned (.int .i64 (-1)) ∧ Below W.heap.size W w') := fun W kad kn kc ad n c g1 g2 => by have := rfirst_any kad kn kc keys ad n c _ W g1 g2; rwa [h4] at this
  have HG := Lib.hid hG
  rw [Hid] at HG; unfold GetP at HG; rw [h5] at HG; replace HG := Lib.hid HG
  clear hG h h1 h2 h3 h4 h5 ha hb hs hvv hfv
  obtain ⟨cad, cc, cf, cb, coff, hp4, hcr, _, _, _, hcf⟩ := hk
  obtain ⟨n, hn⟩ : ∃ n, keys.length = n := ⟨_, rfl⟩
  rw [hn] at hcr hp4 hkl
  rw [Hid, hp4] at HKY
  replace HKY := Lib.hid HKY
  generalize wantV kind (rulesV kind a b) (valOf vs name).tx = wv at *
  rw [hp0, hp2, hp4]
  have HN := Lib.hid hn
  have HCR := Lib.hid hcr
  have HCF := Lib.hid hcf
  clear hn hcr hcf hp0 hp2 hp4
  generalize valR x kind = vr at *
  generalize x 0 = x0 at *
  generalize x 1 = x1 at *
  generalize x 2 = x2 at *
  generalize x 3 = x3 at *
  generalize x 4 = x4 at *
  generalize x 5 = x5 at *
  generalize x 6 = x6 at *
  generalize x 7 = x7 at *
  generalize x 8 = x8 at *
  generalize x 9 = x9 at *
  generalize x 10 = x10 at *
  generalize x 11 = x11 at *
  generalize x 12 = x12 at *
  generalize x 13 = x13 at *
  generalize x 14 = x14 at *
  generalize x 15 = x15 at *
  generalize p 1 = p1 at *
  generalize p 3 = p3 at *
  generalize p 5 = p5 at *
  go_enter Tryz.func12, Tryz.ntmps12
  go_wp2_with fail
  refine (HG.out _ ?_).mono ?_
  · show Bel w _; repeat (first | exact Bel.refl _ | refine Bel.drew ?_ | refine Bel.drewN ?_ _ | refine Bel.alloc ?_ _ | refine Bel.ext ?_ _)
  rintro e W ⟨y, rfl, hbG, hv⟩
  have HBW : Hid (Below w.heap.size w W) := Below.trans (by show Bel w _; exact ((Bel.refl _).alloc _).alloc _) (hbG.mono (by simp; omega))
  have HRL : Hid (W.heap[w.heap.size]? = some (.cells #[x0, x1, x2, x3, x4, x5, x6, x7, x8, x9, x10, x11, x12, x13, x14, x15] 30 (0, 0))) := (hbG.block _ (by simp; omega)).trans ((Below.heap_alloc _ _ _ (by simp)).trans (row_first w _ _))
  have HRP : Hid (W.heap[w.heap.size + 1]? = some (.cells #[.int .i64 kind, p1, .string name, p3, .slice cad n cc, p5] 34 (0, 0))) := (hbG.block _ (by simp)).trans (row_second w _ _ _)
  have hz : w.heap.size + 1 < W.heap.size := by have := hbG.size; simp at this; omega
  obtain ⟨y0, _, y1, y2, _, y3, ad4, c4, _, _, _, y4, _, _, _, _, _⟩ := id hv
  have HV := Lib.hid hv
  rw [y0, y1, y2, y3, y4]
  have HSUY := HSU.out y
  rw [y0, y1, y2, y3, y4] at HSUY
  replace HSUY := Lib.hid HSUY
  have HWNY := HWN.out y
  rw [y0, y1, y2, y3, y4] at HWNY
  replace HWNY := Lib.hid HWNY
  clear HWN
  clear HSU
  generalize valOf vs name = v at *
  generalize v.nm = vnm at *
  generalize v.ty = vty at *
  generalize v.tx = vtx at *
  generalize v.dt = vdt at *
  generalize v.li.length = vn at *
  clear hbG hv y0 y1 y2 y3 y4 HG
  have pk0 : W.cell? ⟨w.heap.size + 1, 0, none⟩ = some (.int .i64 kind) := by rw [Lib.cell_of_heap HRP.out]; rfl
  go_wp2_with fail
  refine (HSL.out _).mono ?_
  rintro e W1 ⟨rfl, hW1⟩
  have HB1 : Hid (Below W.heap.size W W1) := by rw [← hW1]; exact (Below.refl _ _).alloc (Nat.le_refl _) _
  have HBW1 : Hid (Below w.heap.size w W1) := HBW.out.trans (HB1.out.mono (by omega))
  have hz1 : W.heap.size < W1.heap.size := by rw [← hW1]; simp
  have HRV1 : Hid (W1.heap[W.heap.size]? = some (.cells #[.string vnm, .int .i64 vty, .string vtx, .int .i64 vdt, .slice ad4 vn c4] 46 (0, 0))) := by rw [← hW1]; exact row_first W _ _
  have HRL1 : Hid (W1.heap[w.heap.size]? = some (.cells #[x0, x1, x2, x3, x4, x5, x6, x7, x8, x9, x10, x11, x12, x13, x14, x15] 30 (0, 0))) := (HB1.out.block _ (by omega)).trans HRL.out
  have HRP1 : Hid (W1.heap[w.heap.size + 1]? = some (.cells #[.int .i64 kind, p1, .string name, p3, .slice cad n cc, p5] 34 (0, 0))) := (HB1.out.block _ (by omega)).trans HRP.out
  clear hW1 pk0
  have k0 : W1.cell? ⟨w.heap.size, 0, none⟩ = some x0 := by rw [Lib.cell_of_heap HRL1.out]; rfl
  have k1 : W1.cell? ⟨w.heap.size, 1, none⟩ = some x1 := by rw [Lib.cell_of_heap HRL1.out]; rfl
  have k2 : W1.cell? ⟨w.heap.size, 2, none⟩ = some x2 := by rw [Lib.cell_of_heap HRL1.out]; rfl
  have k3 : W1.cell? ⟨w.heap.size, 3, none⟩ = some x3 := by rw [Lib.cell_of_heap HRL1.out]; rfl
  have k4 : W1.cell? ⟨w.heap.size, 4, none⟩ = some x4 := by rw [Lib.cell_of_heap HRL1.out]; rfl
  have k5 : W1.cell? ⟨w.heap.size, 5, none⟩ = some x5 := by rw [Lib.cell_of_heap HRL1.out]; rfl
  have k6 : W1.cell? ⟨w.heap.size, 6, none⟩ = some x6 := by rw [Lib.cell_of_heap HRL1.out]; rfl
  have k7 : W1.cell? ⟨w.heap.size, 7, none⟩ = some x7 := by rw [Lib.cell_of_heap HRL1.out]; rfl
  have k8 : W1.cell? ⟨w.heap.size, 8, none⟩ = some x8 := by rw [Lib.cell_of_heap HRL1.out]; rfl
  have k9 : W1.cell? ⟨w.heap.size, 9, none⟩ = some x9 := by rw [Lib.cell_of_heap HRL1.out]; rfl
  have k10 : W1.cell? ⟨w.heap.size, 10, none⟩ = some x10 := by rw [Lib.cell_of_heap HRL1.out]; rfl
  have k11 : W1.cell? ⟨w.heap.size, 11, none⟩ = some x11 := by rw [Lib.cell_of_heap HRL1.out]; rfl
  have k12 : W1.cell? ⟨w.heap.size, 12, none⟩ = some x12 := by rw [Lib.cell_of_heap HRL1.out]; rfl
  have k13 : W1.cell? ⟨w.heap.size, 13, none⟩ = some x13 := by rw [Lib.cell_of_heap HRL1.out]; rfl
  have k14 : W1.cell? ⟨w.heap.size, 14, none⟩ = some x14 := by rw [Lib.cell_of_heap HRL1.out]; rfl
  have k15 : W1.cell? ⟨w.heap.size, 15, none⟩ = some x15 := by rw [Lib.cell_of_heap HRL1.out]; rfl
  have q0 : W1.cell? ⟨w.heap.size + 1, 0, none⟩ = some (.int .i64 kind) := by rw [Lib.cell_of_heap HRP1.out]; rfl
  have q4 : W1.cell? ⟨w.heap.size + 1, 4, none⟩ = some (.slice cad n cc) := by rw [Lib.cell_of_heap HRP1.out]; rfl
  have r0 : W1.cell? ⟨W.heap.size, 0, none⟩ = some (.string vnm) := by rw [Lib.cell_of_heap HRV1.out]; rfl
  have r1 : W1.cell? ⟨W.heap.size, 1, none⟩ = some (.int .i64 vty) := by rw [Lib.cell_of_heap HRV1.out]; rfl
  have r2 : W1.cell? ⟨W.heap.size, 2, none⟩ = some (.string vtx) := by rw [Lib.cell_of_heap HRV1.out]; rfl
  have r3 : W1.cell? ⟨W.heap.size, 3, none⟩ = some (.int .i64 vdt) := by rw [Lib.cell_of_heap HRV1.out]; rfl
  have r4 : W1.cell? ⟨W.heap.size, 4, none⟩ = some (.slice ad4 vn c4) := by rw [Lib.cell_of_heap HRV1.out]; rfl
  have l1 : w.heap.size < W1.heap.size := by omega
  have l2 : w.heap.size + 1 < W1.heap.size := by omega
  go_wp2_with fail
  refine (Calls.toExt (HRU.out _)).mono ?_
  rintro e _ ⟨rfl, u1, rfl⟩
  go_wp2_with fail
  refine (Calls.toExt (HVA.out _ ?_)).mono ?_
  · show Bel w _; exact Bel.ext HBW1.out _
  rintro e _ ⟨rfl, u2, rfl⟩
  have l3 : w.heap.size < u1.1.heap.size := by have := u1.2.size; omega
  have l4 : w.heap.size + 1 < u1.1.heap.size := by have := u1.2.size; omega
  have l5 : W.heap.size < u1.1.heap.size := by have := u1.2.size; omega
  go_wp2_with fail
  refine (HSUY.out _ ?_).mono ?_
  · exact (HV.out.below (HB1.out.trans ((u1.2.trans (u2.2.mono u1.2.size)).mono HB1.out.size)))
  rintro e W3 ⟨rfl, hb3⟩
  have HB3 : Hid (Below W1.heap.size W1 W3) := (u1.2.trans (u2.2.mono u1.2.size)).trans (hb3.mono (by have := u1.2.size; have := u2.2.size; omega))
  clear hb3
  have HBW3 : Hid (Below w.heap.size w W3) := HBW1.out.trans (HB3.out.mono (by omega))
  have m1 := HB3.out.size
  clear k0 k1 k2 k3 k4 k5 k6 k7 k8 k9 k10 k11 k12 k13 k14 k15 q0 q4 r0 r1 r2 r3 r4 l3 l4 l5
  have HRL3 : Hid (W3.heap[w.heap.size]? = some (.cells #[x0, x1, x2, x3, x4, x5, x6, x7, x8, x9, x10, x11, x12, x13, x14, x15] 30 (0, 0))) := (HB3.out.block _ (by omega)).trans HRL1.out
  have HRP3 : Hid (W3.heap[w.heap.size + 1]? = some (.cells #[.int .i64 kind, p1, .string name, p3, .slice cad n cc, p5] 34 (0, 0))) := (HB3.out.block _ (by omega)).trans HRP1.out
  have HRV3 : Hid (W3.heap[W.heap.size]? = some (.cells #[.string vnm, .int .i64 vty, .string vtx, .int .i64 vdt, .slice ad4 vn c4] 46 (0, 0))) := (HB3.out.block _ (by omega)).trans HRV1.out
  have HV3 := Lib.hid (HV.out.below (HB1.out.trans (HB3.out.mono HB1.out.size)))
  have n1 : w.heap.size < W3.heap.size := by omega
  have n2 : w.heap.size + 1 < W3.heap.size := by omega
  have n3 : W.heap.size < W3.heap.size := by omega
  go_wp2_with fail
  refine wp_region_held_drew (S := fun w' => Below W3.heap.size W3 w') (by kernel_rfl) ((Below.refl _ _).drew) (fun hHeld => ?_)
  refine wpAnyH_take (i := 0) (v := ?_) rfl (by kernel_rfl) (by kernel_rfl) (by kernel_rfl) (fun _ _ _ h => h) (Or.inl ⟨by kernel_rfl, ?_⟩) hHeld ?_
  rotate_left
  · (intro wx hSw; (try dsimp only at hSw); have hrx := (hSw.block (w.heap.size + 1) (by omega)).trans HRP3.out; have k0 := Lib.cell_of_heap (j := 0) hrx; have k1 := Lib.cell_of_heap (j := 1) hrx; have k2 := Lib.cell_of_heap (j := 2) hrx; have k3 := Lib.cell_of_heap (j := 3) hrx; have k4 := Lib.cell_of_heap (j := 4) hrx; have k5 := Lib.cell_of_heap (j := 5) hrx; simp [] at k0 k1 k2 k3 k4 k5; go_simp; try with_reducible rfl)
  simp only [Act.put, List.getElem_toArray, List.getElem_cons_zero, List.setIfInBounds_toArray, List.set_cons_zero, List.set_cons_succ]
  refine wpAnyH_take (i := 2) (v := ?_) rfl (by kernel_rfl) (by kernel_rfl) (by kernel_rfl) (fun _ _ _ h => h) (Or.inl ⟨by kernel_rfl, ?_⟩) hHeld ?_
  rotate_left
  · (intro wx hSw; (try dsimp only at hSw); have hrx := (hSw.block w.heap.size (by omega)).trans HRL3.out; have k0 := Lib.cell_of_heap (j := 0) hrx; have k1 := Lib.cell_of_heap (j := 1) hrx; have k2 := Lib.cell_of_heap (j := 2) hrx; have k3 := Lib.cell_of_heap (j := 3) hrx; have k4 := Lib.cell_of_heap (j := 4) hrx; have k5 := Lib.cell_of_heap (j := 5) hrx; have k6 := Lib.cell_of_heap (j := 6) hrx; have k7 := Lib.cell_of_heap (j := 7) hrx; have k8 := Lib.cell_of_heap (j := 8) hrx; have k9 := Lib.cell_of_heap (j := 9) hrx; have k10 := Lib.cell_of_heap (j := 10) hrx; have k11 := Lib.cell_of_heap (j := 11) hrx; have k12 := Lib.cell_of_heap (j := 12) hrx; have k13 := Lib.cell_of_heap (j := 13) hrx; have k14 := Lib.cell_of_heap (j := 14) hrx; have k15 := Lib.cell_of_heap (j := 15) hrx; simp [] at k0 k1 k2 k3 k4 k5 k6 k7 k8 k9 k10 k11 k12 k13 k14 k15; go_simp; try with_reducible rfl)
  simp only [Act.put, List.getElem_toArray, List.getElem_cons_succ, List.getElem_cons_zero, List.setIfInBounds_toArray, List.set_cons_zero, List.set_cons_succ]
  refine wpAnyH_take (i := 3) (v := ?_) rfl (by kernel_rfl) (by kernel_rfl) (by kernel_rfl) (fun _ _ _ h => h) (Or.inl ⟨by kernel_rfl, ?_⟩) hHeld ?_
  rotate_left
  · (intro wx hSw; (try dsimp only at hSw); go_simp; try with_reducible rfl)
  simp only [Act.put, List.getElem_toArray, List.getElem_cons_succ, List.getElem_cons_zero, List.setIfInBounds_toArray, List.set_cons_zero, List.set_cons_succ]
  refine wpAnyH_take (i := 4) (v := ?_) rfl (by kernel_rfl) (by kernel_rfl) (by kernel_rfl) (fun _ _ _ h => h) (Or.inl ⟨by kernel_rfl, ?_⟩) hHeld ?_
  rotate_left
  · (intro wx hSw; (try dsimp only at hSw); have hrx := (hSw.block (w.heap.size + 1) (by omega)).trans HRP3.out; have k0 := Lib.cell_of_heap (j := 0) hrx; simp [] at k0; go_simp; try with_reducible rfl)
  simp only [Act.put, List.getElem_toArray, List.getElem_cons_succ, List.getElem_cons_zero, List.setIfInBounds_toArray, List.set_cons_zero, List.set_cons_succ]
  refine wpAnyH_take (i := 5) (v := ?_) rfl (by kernel_rfl) (by kernel_rfl) (by kernel_rfl) (fun _ _ _ h => h) (Or.inl ⟨by kernel_rfl, ?_⟩) hHeld ?_
  rotate_left
  · (intro wx hSw; (try dsimp only at hSw); have hrx := (hSw.block W.heap.size (by omega)).trans HRV3.out; have k0 := Lib.cell_of_heap (j := 0) hrx; have k1 := Lib.cell_of_heap (j := 1) hrx; have k2 := Lib.cell_of_heap (j := 2) hrx; have k3 := Lib.cell_of_heap (j := 3) hrx; have k4 := Lib.cell_of_heap (j := 4) hrx; simp [] at k0 k1 k2 k3 k4; go_simp; try with_reducible rfl)
  simp only [Act.put, List.getElem_toArray, List.getElem_cons_succ, List.getElem_cons_zero, List.setIfInBounds_toArray, List.set_cons_zero, List.set_cons_succ]
  refine wpAnyH_ready (rs := [1]) (by kernel_rfl) (by simp) ?_
  refine AllReadyH.cons rfl (fun K hK => ?_) AllReadyH.nil
  go_simp
  refine (HKY.out _ (HBW3.out.trans (hHeld.mono HBW3.out.size))).mono ?_
  rintro e wk ⟨kad, kn, kc, rfl, hslk, hbk⟩
  have HSK := Lib.hid hslk
  have HBK := Lib.hid hbk
  clear hslk hbk
  go_simp
  refine hK.out _ _ (hHeld.trans (HBK.out.mono hHeld.size)) (fun hHeld2 => ?_)
  clear hK K hHeld
  have hHeld := hHeld2
  clear hHeld2
  refine wpAnyH_ready (rs := [6]) (by kernel_rfl) (by simp) ?_
  refine AllReadyH.cons rfl (fun K hK => ?_) AllReadyH.nil
  go_simp
  refine (HWNY.out _ (HBW3.out.trans (hHeld.mono HBW3.out.size)) (HV3.out.below hHeld)).mono ?_
  rintro e wn ⟨nad, nn, nc, rfl, hsln, hbn⟩
  have HSN := Lib.hid hsln
  have HBN := Lib.hid hbn
  clear hsln hbn
  go_simp
  refine hK.out _ _ (hHeld.trans (HBN.out.mono hHeld.size)) (fun hHeld2 => ?_)
  clear hK K hHeld
  have hHeld := hHeld2
  clear hHeld2
  have HSK2 := Lib.hid (HSK.out.below HBN.out)
  refine wpAnyH_ready (rs := [7]) (by kernel_rfl) (by simp) ?_
  refine AllReadyH.cons rfl (fun K hK => ?_) AllReadyH.nil
  go_simp
  refine (HFI.out _ _ _ _ _ _ _ HSK2.out HSN.out).mono ?_
  rintro e wf ⟨rfl, hbf⟩
  have HBF := Lib.hid hbf
  clear hbf
  go_simp
  refine hK.out _ _ (hHeld.trans (HBF.out.mono hHeld.size)) (fun hHeld2 => ?_)
  clear hK K hHeld
  have hHeld := hHeld2
  clear hHeld2
  refine wpAnyH_take (i := 8) (v := ?_) rfl (by kernel_rfl) (by kernel_rfl) (by kernel_rfl) (fun _ _ _ h => h) (Or.inl ⟨by kernel_rfl, ?_⟩) hHeld ?_
  rotate_left
  · (intro wx hSw; (try dsimp only at hSw); go_simp; try with_reducible rfl)
  simp only [Act.put, List.getElem_toArray, List.getElem_cons_succ, List.getElem_cons_zero, List.setIfInBounds_toArray, List.set_cons_zero, List.set_cons_succ]
  refine wpAnyH_done (by kernel_rfl) ?_ _
  go_wp2_with fail
  go_ret2
  exact ⟨rfl, HBW3.out.trans (hHeld.mono HBW3.out.size)⟩
set_option maxRecDepth 20000 in
set_option maxHeartbeats 16000000 in
theorem rchoose_hit (x p : Nat → Value) (a b : List (ByteArray × List (List Rel))) (kind : Int) (name : ByteArray) (keys : List ByteArray) (vs : List Vl) (vv : Value) (w : World) (h : LocC w x a b) (hp0 : p 0 = .int .i64 kind) (hp2 : p 2 = .string name) (hk : RowsOf 2 CaseC w (p 4) keys) (hkl : keys.length * 40 ≤ 140737488355328)
    (hvv : ValsAt w vv vs) (hfv : FewV1 vs) (ha : FewC a) (hb : FewC b) (j : Nat) (h1 : decide (7 ≤ kind ∧ kind ≤ 9) = true) (h2 : validR (rulesV kind a b) = true) (h5 : (getV vs name).isSome = true) (h3 : suitV kind (valOf vs name) = true) (h4 : firstK keys (wantV kind (rulesV kind a b) (valOf vs name).tx) = (j : Int)) :
    Calls Tryz.prog 12 #[.agg #[x 0, x 1, x 2, x 3, x 4, x 5, x 6, x 7, x 8, x 9, x 10, x 11, x 12, x 13, x 14, x 15], .agg #[p 0, p 1, p 2, p 3, p 4, p 5], vv] w fun e w' => e = .returned (.tuple #[.int .i64 (j : Int), .int .i64 0]) ∧ Below w.heap.size w w' := by
  have hG : ∀ W, Below w.heap.size w W → Calls Tryz.prog 29 #[vv, .string name] W (GetP W vs name) := fun W g => rget_any vv vs name W (hvv.below g)
  have hs : (valOf vs name).tx.size ≤ 1000 := valOf_tx hfv name
  have HSL : Hid (∀ W, Calls Tryz.prog 30 #[.int .i64 kind] W fun e w' => e = .returned (.bool true) ∧ W = w') := fun W => by have := rselection_any kind W; rwa [h1] at this
  have HRU : Hid (∀ W, Calls Tryz.prog 32 #[.agg #[x 0, x 1, x 2, x 3, x 4, x 5, x 6, x 7, x 8, x 9, x 10, x 11, x 12, x 13, x 14, x 15], .int .i64 kind] W fun e w' => e = .returned (valR x kind) ∧ Below W.heap.size W w') := fun W => rcrules_any x kind W
  have HVA : Hid (∀ W, Below w.heap.size w W → Calls Tryz.prog 31 #[valR x kind] W fun e w' => e = .returned (.bool true) ∧ Below W.heap.size W w') := fun W g => by have := rvalidr_any _ _ W ((rules_at h kind).below g) (few_rules ha hb kind); rwa [h2] at this
  have HSU : Hid (∀ y W, ValC W y (valOf vs name) → Calls Tryz.prog 33 #[.int .i64 kind, .agg #[y 0, y 1, y 2, y 3, y 4]] W fun e w' => e = .returned (.bool true) ∧ Below W.heap.size W w') := fun y W g => by have := rsuitable_any y kind _ W g hs; rwa [h3] at this
  have HKY : Hid (∀ W, Below w.heap.size w W → Calls Tryz.prog 14 #[.agg #[p 0, p 1, p 2, p 3, p 4, p 5]] W (WantP W keys)) := fun W g => rkeys_any p keys W (hk.map g fun _ _ h => h) hkl
  rw [Hid, hp0, hp2] at HKY
  replace HKY := Lib.hid HKY
  have HWN : Hid (∀ y W, Below w.heap.size w W → ValC W y (valOf vs name) → Calls Tryz.prog 35 #[.agg #[x 0, x 1, x 2, x 3, x 4, x 5, x 6, x 7, x 8, x 9, x 10, x 11, x 12, x 13, x 14, x 15], .int .i64 kind, .agg #[y 0, y 1, y 2, y 3, y 4]] W (WantP W (wantV kind (rulesV kind a b) (valOf vs name).tx))) := fun y W g hv => rwanted_any x y a b kind _ W (h.below g) hv ha hb hs
  have HFI : Hid (∀ W kad kn kc ad n c, Sl W kad kn (strs keys) → Sl W ad n (strs (wantV kind (rulesV kind a b) (valOf vs name).tx)) → Calls Tryz.prog 34 #[.slice kad kn kc, .slice ad n c] W fun e w' => e = .returned (.int .i64 ((j : Int))) ∧ Below W.heap.size W w') := fun W kad kn kc ad n c g1 g2 => by have := rfirst_any kad kn kc keys ad n c _ W g1 g2; rwa [h4] at this
  have HG := Lib.hid hG
  rw [Hid] at HG; unfold GetP at HG; rw [h5] at HG; replace HG := Lib.hid HG
  clear hG h h1 h2 h3 h4 h5 ha hb hs hvv hfv
  obtain ⟨cad, cc, cf, cb, coff, hp4, hcr, _, _, _, hcf⟩ := hk
  obtain ⟨n, hn⟩ : ∃ n, keys.length = n := ⟨_, rfl⟩
  rw [hn] at hcr hp4 hkl
  rw [Hid, hp4] at HKY
  replace HKY := Lib.hid HKY
  generalize wantV kind (rulesV kind a b) (valOf vs name).tx = wv at *
  rw [hp0, hp2, hp4]
  have HN := Lib.hid hn
  have HCR := Lib.hid hcr
  have HCF := Lib.hid hcf
  clear hn hcr hcf hp0 hp2 hp4
  generalize valR x kind = vr at *
  generalize x 0 = x0 at *
  generalize x 1 = x1 at *
  generalize x 2 = x2 at *
  generalize x 3 = x3 at *
  generalize x 4 = x4 at *
  generalize x 5 = x5 at *
  generalize x 6 = x6 at *
  generalize x 7 = x7 at *
  generalize x 8 = x8 at *
  generalize x 9 = x9 at *
  generalize x 10 = x10 at *
  generalize x 11 = x11 at *
  generalize x 12 = x12 at *
  generalize x 13 = x13 at *
  generalize x 14 = x14 at *
  generalize x 15 = x15 at *
  generalize p 1 = p1 at *
  generalize p 3 = p3 at *
  generalize p 5 = p5 at *
  go_enter Tryz.func12, Tryz.ntmps12
  go_wp2_with fail
  refine (HG.out _ ?_).mono ?_
  · show Bel w _; repeat (first | exact Bel.refl _ | refine Bel.drew ?_ | refine Bel.drewN ?_ _ | refine Bel.alloc ?_ _ | refine Bel.ext ?_ _)
  rintro e W ⟨y, rfl, hbG, hv⟩
  have HBW : Hid (Below w.heap.size w W) := Below.trans (by show Bel w _; exact ((Bel.refl _).alloc _).alloc _) (hbG.mono (by simp; omega))
  have HRL : Hid (W.heap[w.heap.size]? = some (.cells #[x0, x1, x2, x3, x4, x5, x6, x7, x8, x9, x10, x11, x12, x13, x14, x15] 30 (0, 0))) := (hbG.block _ (by simp; omega)).trans ((Below.heap_alloc _ _ _ (by simp)).trans (row_first w _ _))
  have HRP : Hid (W.heap[w.heap.size + 1]? = some (.cells #[.int .i64 kind, p1, .string name, p3, .slice cad n cc, p5] 34 (0, 0))) := (hbG.block _ (by simp)).trans (row_second w _ _ _)
  have hz : w.heap.size + 1 < W.heap.size := by have := hbG.size; simp at this; omega
  obtain ⟨y0, _, y1, y2, _, y3, ad4, c4, _, _, _, y4, _, _, _, _, _⟩ := id hv
  have HV := Lib.hid hv
  rw [y0, y1, y2, y3, y4]
  have HSUY := HSU.out y
  rw [y0, y1, y2, y3, y4] at HSUY
  replace HSUY := Lib.hid HSUY
  have HWNY := HWN.out y
  rw [y0, y1, y2, y3, y4] at HWNY
  replace HWNY := Lib.hid HWNY
  clear HWN
  clear HSU
  generalize valOf vs name = v at *
  generalize v.nm = vnm at *
  generalize v.ty = vty at *
  generalize v.tx = vtx at *
  generalize v.dt = vdt at *
  generalize v.li.length = vn at *
  clear hbG hv y0 y1 y2 y3 y4 HG
  have pk0 : W.cell? ⟨w.heap.size + 1, 0, none⟩ = some (.int .i64 kind) := by rw [Lib.cell_of_heap HRP.out]; rfl
  go_wp2_with fail
  refine (HSL.out _).mono ?_
  rintro e W1 ⟨rfl, hW1⟩
  have HB1 : Hid (Below W.heap.size W W1) := by rw [← hW1]; exact (Below.refl _ _).alloc (Nat.le_refl _) _
  have HBW1 : Hid (Below w.heap.size w W1) := HBW.out.trans (HB1.out.mono (by omega))
  have hz1 : W.heap.size < W1.heap.size := by rw [← hW1]; simp
  have HRV1 : Hid (W1.heap[W.heap.size]? = some (.cells #[.string vnm, .int .i64 vty, .string vtx, .int .i64 vdt, .slice ad4 vn c4] 46 (0, 0))) := by rw [← hW1]; exact row_first W _ _
  have HRL1 : Hid (W1.heap[w.heap.size]? = some (.cells #[x0, x1, x2, x3, x4, x5, x6, x7, x8, x9, x10, x11, x12, x13, x14, x15] 30 (0, 0))) := (HB1.out.block _ (by omega)).trans HRL.out
  have HRP1 : Hid (W1.heap[w.heap.size + 1]? = some (.cells #[.int .i64 kind, p1, .string name, p3, .slice cad n cc, p5] 34 (0, 0))) := (HB1.out.block _ (by omega)).trans HRP.out
  clear hW1 pk0
  have k0 : W1.cell? ⟨w.heap.size, 0, none⟩ = some x0 := by rw [Lib.cell_of_heap HRL1.out]; rfl
  have k1 : W1.cell? ⟨w.heap.size, 1, none⟩ = some x1 := by rw [Lib.cell_of_heap HRL1.out]; rfl
  have k2 : W1.cell? ⟨w.heap.size, 2, none⟩ = some x2 := by rw [Lib.cell_of_heap HRL1.out]; rfl
  have k3 : W1.cell? ⟨w.heap.size, 3, none⟩ = some x3 := by rw [Lib.cell_of_heap HRL1.out]; rfl
  have k4 : W1.cell? ⟨w.heap.size, 4, none⟩ = some x4 := by rw [Lib.cell_of_heap HRL1.out]; rfl
  have k5 : W1.cell? ⟨w.heap.size, 5, none⟩ = some x5 := by rw [Lib.cell_of_heap HRL1.out]; rfl
  have k6 : W1.cell? ⟨w.heap.size, 6, none⟩ = some x6 := by rw [Lib.cell_of_heap HRL1.out]; rfl
  have k7 : W1.cell? ⟨w.heap.size, 7, none⟩ = some x7 := by rw [Lib.cell_of_heap HRL1.out]; rfl
  have k8 : W1.cell? ⟨w.heap.size, 8, none⟩ = some x8 := by rw [Lib.cell_of_heap HRL1.out]; rfl
  have k9 : W1.cell? ⟨w.heap.size, 9, none⟩ = some x9 := by rw [Lib.cell_of_heap HRL1.out]; rfl
  have k10 : W1.cell? ⟨w.heap.size, 10, none⟩ = some x10 := by rw [Lib.cell_of_heap HRL1.out]; rfl
  have k11 : W1.cell? ⟨w.heap.size, 11, none⟩ = some x11 := by rw [Lib.cell_of_heap HRL1.out]; rfl
  have k12 : W1.cell? ⟨w.heap.size, 12, none⟩ = some x12 := by rw [Lib.cell_of_heap HRL1.out]; rfl
  have k13 : W1.cell? ⟨w.heap.size, 13, none⟩ = some x13 := by rw [Lib.cell_of_heap HRL1.out]; rfl
  have k14 : W1.cell? ⟨w.heap.size, 14, none⟩ = some x14 := by rw [Lib.cell_of_heap HRL1.out]; rfl
  have k15 : W1.cell? ⟨w.heap.size, 15, none⟩ = some x15 := by rw [Lib.cell_of_heap HRL1.out]; rfl
  have q0 : W1.cell? ⟨w.heap.size + 1, 0, none⟩ = some (.int .i64 kind) := by rw [Lib.cell_of_heap HRP1.out]; rfl
  have q4 : W1.cell? ⟨w.heap.size + 1, 4, none⟩ = some (.slice cad n cc) := by rw [Lib.cell_of_heap HRP1.out]; rfl
  have r0 : W1.cell? ⟨W.heap.size, 0, none⟩ = some (.string vnm) := by rw [Lib.cell_of_heap HRV1.out]; rfl
  have r1 : W1.cell? ⟨W.heap.size, 1, none⟩ = some (.int .i64 vty) := by rw [Lib.cell_of_heap HRV1.out]; rfl
  have r2 : W1.cell? ⟨W.heap.size, 2, none⟩ = some (.string vtx) := by rw [Lib.cell_of_heap HRV1.out]; rfl
  have r3 : W1.cell? ⟨W.heap.size, 3, none⟩ = some (.int .i64 vdt) := by rw [Lib.cell_of_heap HRV1.out]; rfl
  have r4 : W1.cell? ⟨W.heap.size, 4, none⟩ = some (.slice ad4 vn c4) := by rw [Lib.cell_of_heap HRV1.out]; rfl
  have l1 : w.heap.size < W1.heap.size := by omega
  have l2 : w.heap.size + 1 < W1.heap.size := by omega
  go_wp2_with fail
  refine (Calls.toExt (HRU.out _)).mono ?_
  rintro e _ ⟨rfl, u1, rfl⟩
  go_wp2_with fail
  refine (Calls.toExt (HVA.out _ ?_)).mono ?_
  · show Bel w _; exact Bel.ext HBW1.out _
  rintro e _ ⟨rfl, u2, rfl⟩
  have l3 : w.heap.size < u1.1.heap.size := by have := u1.2.size; omega
  have l4 : w.heap.size + 1 < u1.1.heap.size := by have := u1.2.size; omega
  have l5 : W.heap.size < u1.1.heap.size := by have := u1.2.size; omega
  go_wp2_with fail
  refine (HSUY.out _ ?_).mono ?_
  · exact (HV.out.below (HB1.out.trans ((u1.2.trans (u2.2.mono u1.2.size)).mono HB1.out.size)))
  rintro e W3 ⟨rfl, hb3⟩
  have HB3 : Hid (Below W1.heap.size W1 W3) := (u1.2.trans (u2.2.mono u1.2.size)).trans (hb3.mono (by have := u1.2.size; have := u2.2.size; omega))
  clear hb3
  have HBW3 : Hid (Below w.heap.size w W3) := HBW1.out.trans (HB3.out.mono (by omega))
  have m1 := HB3.out.size
  clear k0 k1 k2 k3 k4 k5 k6 k7 k8 k9 k10 k11 k12 k13 k14 k15 q0 q4 r0 r1 r2 r3 r4 l3 l4 l5
  have HRL3 : Hid (W3.heap[w.heap.size]? = some (.cells #[x0, x1, x2, x3, x4, x5, x6, x7, x8, x9, x10, x11, x12, x13, x14, x15] 30 (0, 0))) := (HB3.out.block _ (by omega)).trans HRL1.out
  have HRP3 : Hid (W3.heap[w.heap.size + 1]? = some (.cells #[.int .i64 kind, p1, .string name, p3, .slice cad n cc, p5] 34 (0, 0))) := (HB3.out.block _ (by omega)).trans HRP1.out
  have HRV3 : Hid (W3.heap[W.heap.size]? = some (.cells #[.string vnm, .int .i64 vty, .string vtx, .int .i64 vdt, .slice ad4 vn c4] 46 (0, 0))) := (HB3.out.block _ (by omega)).trans HRV1.out
  have HV3 := Lib.hid (HV.out.below (HB1.out.trans (HB3.out.mono HB1.out.size)))
  have n1 : w.heap.size < W3.heap.size := by omega
  have n2 : w.heap.size + 1 < W3.heap.size := by omega
  have n3 : W.heap.size < W3.heap.size := by omega
  go_wp2_with fail
  refine wp_region_held_drew (S := fun w' => Below W3.heap.size W3 w') (by kernel_rfl) ((Below.refl _ _).drew) (fun hHeld => ?_)
  refine wpAnyH_take (i := 0) (v := ?_) rfl (by kernel_rfl) (by kernel_rfl) (by kernel_rfl) (fun _ _ _ h => h) (Or.inl ⟨by kernel_rfl, ?_⟩) hHeld ?_
  rotate_left
  · (intro wx hSw; (try dsimp only at hSw); have hrx := (hSw.block (w.heap.size + 1) (by omega)).trans HRP3.out; have k0 := Lib.cell_of_heap (j := 0) hrx; have k1 := Lib.cell_of_heap (j := 1) hrx; have k2 := Lib.cell_of_heap (j := 2) hrx; have k3 := Lib.cell_of_heap (j := 3) hrx; have k4 := Lib.cell_of_heap (j := 4) hrx; have k5 := Lib.cell_of_heap (j := 5) hrx; simp [] at k0 k1 k2 k3 k4 k5; go_simp; try with_reducible rfl)
  simp only [Act.put, List.getElem_toArray, List.getElem_cons_zero, List.setIfInBounds_toArray, List.set_cons_zero, List.set_cons_succ]
  refine wpAnyH_take (i := 2) (v := ?_) rfl (by kernel_rfl) (by kernel_rfl) (by kernel_rfl) (fun _ _ _ h => h) (Or.inl ⟨by kernel_rfl, ?_⟩) hHeld ?_
  rotate_left
  · (intro wx hSw; (try dsimp only at hSw); have hrx := (hSw.block w.heap.size (by omega)).trans HRL3.out; have k0 := Lib.cell_of_heap (j := 0) hrx; have k1 := Lib.cell_of_heap (j := 1) hrx; have k2 := Lib.cell_of_heap (j := 2) hrx; have k3 := Lib.cell_of_heap (j := 3) hrx; have k4 := Lib.cell_of_heap (j := 4) hrx; have k5 := Lib.cell_of_heap (j := 5) hrx; have k6 := Lib.cell_of_heap (j := 6) hrx; have k7 := Lib.cell_of_heap (j := 7) hrx; have k8 := Lib.cell_of_heap (j := 8) hrx; have k9 := Lib.cell_of_heap (j := 9) hrx; have k10 := Lib.cell_of_heap (j := 10) hrx; have k11 := Lib.cell_of_heap (j := 11) hrx; have k12 := Lib.cell_of_heap (j := 12) hrx; have k13 := Lib.cell_of_heap (j := 13) hrx; have k14 := Lib.cell_of_heap (j := 14) hrx; have k15 := Lib.cell_of_heap (j := 15) hrx; simp [] at k0 k1 k2 k3 k4 k5 k6 k7 k8 k9 k10 k11 k12 k13 k14 k15; go_simp; try with_reducible rfl)
  simp only [Act.put, List.getElem_toArray, List.getElem_cons_succ, List.getElem_cons_zero, List.setIfInBounds_toArray, List.set_cons_zero, List.set_cons_succ]
  refine wpAnyH_take (i := 3) (v := ?_) rfl (by kernel_rfl) (by kernel_rfl) (by kernel_rfl) (fun _ _ _ h => h) (Or.inl ⟨by kernel_rfl, ?_⟩) hHeld ?_
  rotate_left
  · (intro wx hSw; (try dsimp only at hSw); go_simp; try with_reducible rfl)
  simp only [Act.put, List.getElem_toArray, List.getElem_cons_succ, List.getElem_cons_zero, List.setIfInBounds_toArray, List.set_cons_zero, List.set_cons_succ]
  refine wpAnyH_take (i := 4) (v := ?_) rfl (by kernel_rfl) (by kernel_rfl) (by kernel_rfl) (fun _ _ _ h => h) (Or.inl ⟨by kernel_rfl, ?_⟩) hHeld ?_
  rotate_left
  · (intro wx hSw; (try dsimp only at hSw); have hrx := (hSw.block (w.heap.size + 1) (by omega)).trans HRP3.out; have k0 := Lib.cell_of_heap (j := 0) hrx; simp [] at k0; go_simp; try with_reducible rfl)
  simp only [Act.put, List.getElem_toArray, List.getElem_cons_succ, List.getElem_cons_zero, List.setIfInBounds_toArray, List.set_cons_zero, List.set_cons_succ]
  refine wpAnyH_take (i := 5) (v := ?_) rfl (by kernel_rfl) (by kernel_rfl) (by kernel_rfl) (fun _ _ _ h => h) (Or.inl ⟨by kernel_rfl, ?_⟩) hHeld ?_
  rotate_left
  · (intro wx hSw; (try dsimp only at hSw); have hrx := (hSw.block W.heap.size (by omega)).trans HRV3.out; have k0 := Lib.cell_of_heap (j := 0) hrx; have k1 := Lib.cell_of_heap (j := 1) hrx; have k2 := Lib.cell_of_heap (j := 2) hrx; have k3 := Lib.cell_of_heap (j := 3) hrx; have k4 := Lib.cell_of_heap (j := 4) hrx; simp [] at k0 k1 k2 k3 k4; go_simp; try with_reducible rfl)
  simp only [Act.put, List.getElem_toArray, List.getElem_cons_succ, List.getElem_cons_zero, List.setIfInBounds_toArray, List.set_cons_zero, List.set_cons_succ]
  refine wpAnyH_ready (rs := [1]) (by kernel_rfl) (by simp) ?_
  refine AllReadyH.cons rfl (fun K hK => ?_) AllReadyH.nil
  go_simp
  refine (HKY.out _ (HBW3.out.trans (hHeld.mono HBW3.out.size))).mono ?_
  rintro e wk ⟨kad, kn, kc, rfl, hslk, hbk⟩
  have HSK := Lib.hid hslk
  have HBK := Lib.hid hbk
  clear hslk hbk
  go_simp
  refine hK.out _ _ (hHeld.trans (HBK.out.mono hHeld.size)) (fun hHeld2 => ?_)
  clear hK K hHeld
  have hHeld := hHeld2
  clear hHeld2
  refine wpAnyH_ready (rs := [6]) (by kernel_rfl) (by simp) ?_
  refine AllReadyH.cons rfl (fun K hK => ?_) AllReadyH.nil
  go_simp
  refine (HWNY.out _ (HBW3.out.trans (hHeld.mono HBW3.out.size)) (HV3.out.below hHeld)).mono ?_
  rintro e wn ⟨nad, nn, nc, rfl, hsln, hbn⟩
  have HSN := Lib.hid hsln
  have HBN := Lib.hid hbn
  clear hsln hbn
  go_simp
  refine hK.out _ _ (hHeld.trans (HBN.out.mono hHeld.size)) (fun hHeld2 => ?_)
  clear hK K hHeld
  have hHeld := hHeld2
  clear hHeld2
  have HSK2 := Lib.hid (HSK.out.below HBN.out)
  refine wpAnyH_ready (rs := [7]) (by kernel_rfl) (by simp) ?_
  refine AllReadyH.cons rfl (fun K hK => ?_) AllReadyH.nil
  go_simp
  refine (HFI.out _ _ _ _ _ _ _ HSK2.out HSN.out).mono ?_
  rintro e wf ⟨rfl, hbf⟩
  have HBF := Lib.hid hbf
  clear hbf
  go_simp
  refine hK.out _ _ (hHeld.trans (HBF.out.mono hHeld.size)) (fun hHeld2 => ?_)
  clear hK K hHeld
  have hHeld := hHeld2
  clear hHeld2
  refine wpAnyH_take (i := 8) (v := ?_) rfl (by kernel_rfl) (by kernel_rfl) (by kernel_rfl) (fun _ _ _ h => h) (Or.inl ⟨by kernel_rfl, ?_⟩) hHeld ?_
  rotate_left
  · (intro wx hSw; (try dsimp only at hSw); go_simp; try with_reducible rfl)
  simp only [Act.put, List.getElem_toArray, List.getElem_cons_succ, List.getElem_cons_zero, List.setIfInBounds_toArray, List.set_cons_zero, List.set_cons_succ]
  refine wpAnyH_done (by kernel_rfl) ?_ _
  go_wp2_with fail
  go_ret2
  exact ⟨rfl, HBW3.out.trans (hHeld.mono HBW3.out.size)⟩
end Go.Proofs.YtadhblppeaamlaaGreatDoor
