/- Walks: the case that values choose, in the program: each way. -/
import Derived.Test.YtadhblppeaamlaaGreatDoorQ17
import Derived.Test.YtadhblppeaamlaaGreatDoorQ19
import Derived.Test.YtadhblppeaamlaaGreatDoorQ18
namespace Go.Proofs.YtadhblppeaamlaaGreatDoor
open Go.RowKit
attribute [local go_sem] Ext.cell Ext.frozen
attribute [local go_sem ↓] Go.wp_at_zero Go.wp_at_succ

set_option maxRecDepth 20000 in
set_option maxHeartbeats 16000000 in
theorem choose_none (x p : Nat → Value) (a b : List (ByteArray × List (List Rel))) (kind : Int) (name : ByteArray) (keys : List ByteArray) (vs : List Vl) (vv : Value) (w : World) (h : LocC w x a b) (hp0 : p 0 = .int .i64 kind) (hp2 : p 2 = .string name) (hk : RowsOf 2 CaseC w (p 4) keys) (hkl : keys.length * 40 ≤ 140737488355328)
    (hvv : ValsAt w vv vs) (hfv : FewV1 vs) (ha : FewC a) (hb : FewC b) (h1 : decide (7 ≤ kind ∧ kind ≤ 9) = true) (h2 : validR (rulesV kind a b) = true) (h5 : (getV vs name).isSome = true) (h3 : suitV kind (valOf vs name) = true) (h4 : firstK keys (wantV kind (rulesV kind a b) (valOf vs name).tx) = -1) :
    Calls Tryz.prog 11 #[.agg #[x 0, x 1, x 2, x 3, x 4, x 5, x 6, x 7, x 8, x 9, x 10, x 11, x 12, x 13, x 14, x 15], .agg #[p 0, p 1, p 2, p 3, p 4, p 5], vv] w fun e w' => e = .returned (.tuple #[.int .i64 0, .int .i64 13]) ∧ Below w.heap.size w w' := by
  have hG : ∀ W, Below w.heap.size w W → Calls Tryz.prog 23 #[vv, .string name] W (GetP W vs name) := fun W g => get_any vv vs name W (hvv.below g) (fun v hv => by have := (hfv v hv).2; omega)
  have hs : (valOf vs name).tx.size ≤ 1000 := valOf_tx hfv name
  have HSL : Hid (∀ W, Calls Tryz.prog 24 #[.int .i64 kind] W fun e w' => e = .returned (.bool true) ∧ W = w') := fun W => by have := selection_any kind W; rwa [h1] at this
  have HRU : Hid (∀ W, Calls Tryz.prog 26 #[.agg #[x 0, x 1, x 2, x 3, x 4, x 5, x 6, x 7, x 8, x 9, x 10, x 11, x 12, x 13, x 14, x 15], .int .i64 kind] W fun e w' => e = .returned (valR x kind) ∧ Below W.heap.size W w') := fun W => crules_any x kind W
  have HVA : Hid (∀ W, Below w.heap.size w W → Calls Tryz.prog 25 #[valR x kind] W fun e w' => e = .returned (.bool true) ∧ Below W.heap.size W w') := fun W g => by have := pvalid_any _ _ W ((rules_at h kind).below g) (few_rules ha hb kind); rwa [h2] at this
  have HSU : Hid (∀ y W, ValC W y (valOf vs name) → Calls Tryz.prog 27 #[.int .i64 kind, .agg #[y 0, y 1, y 2, y 3, y 4]] W fun e w' => e = .returned (.bool true) ∧ Below W.heap.size W w') := fun y W g => by have := suitable_any y kind _ W g hs; rwa [h3] at this
  have HIX : Hid (∀ y W kad kn kc, Below w.heap.size w W → ValC W y (valOf vs name) → Sl W kad kn (strs keys) → Calls Tryz.prog 28 #[.agg #[x 0, x 1, x 2, x 3, x 4, x 5, x 6, x 7, x 8, x 9, x 10, x 11, x 12, x 13, x 14, x 15], .int .i64 kind, .slice kad kn kc, .agg #[y 0, y 1, y 2, y 3, y 4]] W fun e w' => e = .returned (.int .i64 (-1)) ∧ Below W.heap.size W w') := fun y W kad kn kc g hv hkk => by have := cindex_any x y a b kind kad kn kc keys _ W (h.below g) hkk hv ha hb hs; rwa [h4] at this
  have HG := Lib.hid hG
  rw [Hid] at HG; unfold GetP at HG; rw [h5] at HG; replace HG := Lib.hid HG
  clear hG h h1 h2 h3 h4 h5 ha hb hs hvv hfv
  obtain ⟨cad, cc, cf, cb, coff, hp4, hcr, _, _, _, hcf⟩ := hk
  obtain ⟨n, hn⟩ : ∃ n, keys.length = n := ⟨_, rfl⟩
  rw [hn] at hcr hp4 hkl
  rw [hp0, hp2, hp4]
  have HN := Lib.hid hn
  have HCR := Lib.hid hcr
  have HCF := Lib.hid hcf
  clear hn hcr hcf hp0 hp2 hp4
  generalize valR x kind = vr at *
  generalize x 0 = x0 at *
  generalize x 1 = x1 at *
  generalize x 2 = x2 at *
  generalize x 3 = x3 at *
  generalize x 4 = x4 at *
  generalize x 5 = x5 at *
  generalize x 6 = x6 at *
  generalize x 7 = x7 at *
  generalize x 8 = x8 at *
  generalize x 9 = x9 at *
  generalize x 10 = x10 at *
  generalize x 11 = x11 at *
  generalize x 12 = x12 at *
  generalize x 13 = x13 at *
  generalize x 14 = x14 at *
  generalize x 15 = x15 at *
  generalize p 1 = p1 at *
  generalize p 3 = p3 at *
  generalize p 5 = p5 at *
  go_enter Tryz.func11, Tryz.ntmps11
  go_wp2_with fail
  refine (HG.out _ ?_).mono ?_
  · show Bel w _; repeat (first | exact Bel.refl _ | refine Bel.drew ?_ | refine Bel.drewN ?_ _ | refine Bel.alloc ?_ _ | refine Bel.ext ?_ _)
  rintro e W ⟨y, rfl, hbG, hv⟩
  have HBW : Hid (Below w.heap.size w W) := Below.trans (by show Bel w _; exact ((Bel.refl _).alloc _).alloc _) (hbG.mono (by simp; omega))
  have HRL : Hid (W.heap[w.heap.size]? = some (.cells #[x0, x1, x2, x3, x4, x5, x6, x7, x8, x9, x10, x11, x12, x13, x14, x15] 30 (0, 0))) := (hbG.block _ (by simp; omega)).trans ((Below.heap_alloc _ _ _ (by simp)).trans (row_first w _ _))
  have HRP : Hid (W.heap[w.heap.size + 1]? = some (.cells #[.int .i64 kind, p1, .string name, p3, .slice cad n cc, p5] 34 (0, 0))) := (hbG.block _ (by simp)).trans (row_second w _ _ _)
  have hz : w.heap.size + 1 < W.heap.size := by have := hbG.size; simp at this; omega
  obtain ⟨y0, _, y1, y2, _, y3, ad4, c4, _, _, _, y4, _, _, _, _, _⟩ := id hv
  have HV := Lib.hid hv
  rw [y0, y1, y2, y3, y4]
  have HSUY := HSU.out y
  rw [y0, y1, y2, y3, y4] at HSUY
  replace HSUY := Lib.hid HSUY
  have HIXY := HIX.out y
  rw [y0, y1, y2, y3, y4] at HIXY
  replace HIXY := Lib.hid HIXY
  clear HIX
  clear HSU
  generalize valOf vs name = v at *
  generalize v.nm = vnm at *
  generalize v.ty = vty at *
  generalize v.tx = vtx at *
  generalize v.dt = vdt at *
  generalize v.li.length = vn at *
  clear hbG hv y0 y1 y2 y3 y4 HG
  have pk0 : W.cell? ⟨w.heap.size + 1, 0, none⟩ = some (.int .i64 kind) := by rw [Lib.cell_of_heap HRP.out]; rfl
  go_wp2_with fail
  refine (HSL.out _).mono ?_
  rintro e W1 ⟨rfl, hW1⟩
  have HB1 : Hid (Below W.heap.size W W1) := by rw [← hW1]; exact (Below.refl _ _).alloc (Nat.le_refl _) _
  have HBW1 : Hid (Below w.heap.size w W1) := HBW.out.trans (HB1.out.mono (by omega))
  have hz1 : W.heap.size < W1.heap.size := by rw [← hW1]; simp
  have HRV1 : Hid (W1.heap[W.heap.size]? = some (.cells #[.string vnm, .int .i64 vty, .string vtx, .int .i64 vdt, .slice ad4 vn c4] 46 (0, 0))) := by rw [← hW1]; exact row_first W _ _
  have HRL1 : Hid (W1.heap[w.heap.size]? = some (.cells #[x0, x1, x2, x3, x4, x5, x6, x7, x8, x9, x10, x11, x12, x13, x14, x15] 30 (0, 0))) := (HB1.out.block _ (by omega)).trans HRL.out
  have HRP1 : Hid (W1.heap[w.heap.size + 1]? = some (.cells #[.int .i64 kind, p1, .string name, p3, .slice cad n cc, p5] 34 (0, 0))) := (HB1.out.block _ (by omega)).trans HRP.out
  clear hW1 pk0
  have k0 : W1.cell? ⟨w.heap.size, 0, none⟩ = some x0 := by rw [Lib.cell_of_heap HRL1.out]; rfl
  have k1 : W1.cell? ⟨w.heap.size, 1, none⟩ = some x1 := by rw [Lib.cell_of_heap HRL1.out]; rfl
  have k2 : W1.cell? ⟨w.heap.size, 2, none⟩ = some x2 := by rw [Lib.cell_of_heap HRL1.out]; rfl
  have k3 : W1.cell? ⟨w.heap.size, 3, none⟩ = some x3 := by rw [Lib.cell_of_heap HRL1.out]; rfl
  have k4 : W1.cell? ⟨w.heap.size, 4, none⟩ = some x4 := by rw [Lib.cell_of_heap HRL1.out]; rfl
  have k5 : W1.cell? ⟨w.heap.size, 5, none⟩ = some x5 := by rw [Lib.cell_of_heap HRL1.out]; rfl
  have k6 : W1.cell? ⟨w.heap.size, 6, none⟩ = some x6 := by rw [Lib.cell_of_heap HRL1.out]; rfl
  have k7 : W1.cell? ⟨w.heap.size, 7, none⟩ = some x7 := by rw [Lib.cell_of_heap HRL1.out]; rfl
  have k8 : W1.cell? ⟨w.heap.size, 8, none⟩ = some x8 := by rw [Lib.cell_of_heap HRL1.out]; rfl
  have k9 : W1.cell? ⟨w.heap.size, 9, none⟩ = some x9 := by rw [Lib.cell_of_heap HRL1.out]; rfl
  have k10 : W1.cell? ⟨w.heap.size, 10, none⟩ = some x10 := by rw [Lib.cell_of_heap HRL1.out]; rfl
  have k11 : W1.cell? ⟨w.heap.size, 11, none⟩ = some x11 := by rw [Lib.cell_of_heap HRL1.out]; rfl
  have k12 : W1.cell? ⟨w.heap.size, 12, none⟩ = some x12 := by rw [Lib.cell_of_heap HRL1.out]; rfl
  have k13 : W1.cell? ⟨w.heap.size, 13, none⟩ = some x13 := by rw [Lib.cell_of_heap HRL1.out]; rfl
  have k14 : W1.cell? ⟨w.heap.size, 14, none⟩ = some x14 := by rw [Lib.cell_of_heap HRL1.out]; rfl
  have k15 : W1.cell? ⟨w.heap.size, 15, none⟩ = some x15 := by rw [Lib.cell_of_heap HRL1.out]; rfl
  have q0 : W1.cell? ⟨w.heap.size + 1, 0, none⟩ = some (.int .i64 kind) := by rw [Lib.cell_of_heap HRP1.out]; rfl
  have q4 : W1.cell? ⟨w.heap.size + 1, 4, none⟩ = some (.slice cad n cc) := by rw [Lib.cell_of_heap HRP1.out]; rfl
  have r0 : W1.cell? ⟨W.heap.size, 0, none⟩ = some (.string vnm) := by rw [Lib.cell_of_heap HRV1.out]; rfl
  have r1 : W1.cell? ⟨W.heap.size, 1, none⟩ = some (.int .i64 vty) := by rw [Lib.cell_of_heap HRV1.out]; rfl
  have r2 : W1.cell? ⟨W.heap.size, 2, none⟩ = some (.string vtx) := by rw [Lib.cell_of_heap HRV1.out]; rfl
  have r3 : W1.cell? ⟨W.heap.size, 3, none⟩ = some (.int .i64 vdt) := by rw [Lib.cell_of_heap HRV1.out]; rfl
  have r4 : W1.cell? ⟨W.heap.size, 4, none⟩ = some (.slice ad4 vn c4) := by rw [Lib.cell_of_heap HRV1.out]; rfl
  have l1 : w.heap.size < W1.heap.size := by omega
  have l2 : w.heap.size + 1 < W1.heap.size := by omega
  go_wp2_with fail
  refine (Calls.toExt (HRU.out _)).mono ?_
  rintro e _ ⟨rfl, u1, rfl⟩
  go_wp2_with fail
  refine (Calls.toExt (HVA.out _ ?_)).mono ?_
  · show Bel w _; exact Bel.ext HBW1.out _
  rintro e _ ⟨rfl, u2, rfl⟩
  have l3 : w.heap.size < u1.1.heap.size := by have := u1.2.size; omega
  have l4 : w.heap.size + 1 < u1.1.heap.size := by have := u1.2.size; omega
  have l5 : W.heap.size < u1.1.heap.size := by have := u1.2.size; omega
  go_wp2_with fail
  refine (HSUY.out _ ?_).mono ?_
  · exact (HV.out.below (HB1.out.trans ((u1.2.trans (u2.2.mono u1.2.size)).mono HB1.out.size)))
  rintro e W3 ⟨rfl, hb3⟩
  have HB3 : Hid (Below W1.heap.size W1 W3) := (u1.2.trans (u2.2.mono u1.2.size)).trans (hb3.mono (by have := u1.2.size; have := u2.2.size; omega))
  clear hb3
  have HBW3 : Hid (Below w.heap.size w W3) := HBW1.out.trans (HB3.out.mono (by omega))
  have m1 := HB3.out.size
  have t4 : W3.cell? ⟨w.heap.size + 1, 4, none⟩ = some (.slice cad n cc) := (HB3.out.cell (p := ⟨w.heap.size + 1, 4, none⟩) l2).trans q4
  clear k0 k1 k2 k3 k4 k5 k6 k7 k8 k9 k10 k11 k12 k13 k14 k15 q0 q4 r0 r1 r2 r3 r4 l3 l4 l5
  go_wp2_with fail
  go_loopw [10, 45] (fun t v wr => ∃ (k : Nat) (ad : Option Addr) (c : Nat), v = .int .i64 (k : Int) ∧ k ≤ n ∧ t = .slice ad k c ∧ wr.ownsRow W3.heap.size 9 1 (.slice ad k c) k (strs (keys.take k)) ∧ Below W3.heap.size W3 wr) (fun _ v _ => n - (intOf v).toNat)
  case atStart => exact ⟨0, none, 0, rfl, Nat.zero_le _, rfl, ⟨rfl, .inl ⟨rfl, rfl⟩⟩, Below.refl _ _⟩
  case round =>
    obtain ⟨k, ad, c, rfl, hkn, rfl, hown, hbl⟩ := hrel
    have HOW := Lib.hid hown
    have HBL := Lib.hid hbl
    have hzr := hbl.size
    have HWR : Hid (Below w.heap.size w wr) := HBW3.out.trans (hbl.mono HBW3.out.size)
    clear hown hbl
    by_cases hlt : k < n
    · have hrr := HCR.out.below HWR.out
      have hix := fun W => hrr.ix 31 44 Tryz.underlying31 (by kernel_rfl) (by omega) hlt cc W
      have c0 : wr.cell? ⟨cb, coff + k * 2, none⟩ = some (cf k 0) := hrr.cell k 0 hlt (by omega)
      have c1 : wr.cell? ⟨cb, coff + k * 2 + 1, none⟩ = some (cf k 1) := hrr.cell k 1 hlt (by omega)
      have hk0 : k < keys.length := by rw [HN.out]; exact hlt
      obtain ⟨g0, a5, m5, c5, g1⟩ := RowsOf.get HCF.out hk0 ByteArray.empty
      rw [g0] at c0
      rw [g1] at c1
      have HTK : Hid (keys.take k ++ [keys.getD k .empty] = keys.take (k + 1)) := by
        unfold Hid
        rw [List.take_succ_eq_append_getElem hk0]
        simp [List.getD, List.getElem?_eq_getElem hk0]
      clear hrr g0 g1 hk0
      generalize keys.getD k .empty = ky at *
      have hbb : Below wr.heap.size wr ((wr.alloc (.cells #[.string ky, .slice a5 m5 c5] 44)).alloc (.cells #[.string ky] 9)) := Bel.alloc (Bel.alloc (Bel.refl _) _) _
      have HBB := Lib.hid hbb
      have HOB := Lib.hid (Own.below HOW.out hbb)
      have HSB : Hid (Sl ((wr.alloc (.cells #[.string ky, .slice a5 m5 c5] 44)).alloc (.cells #[.string ky] 9)) (some ⟨wr.heap.size + 1, 0, none⟩) 1 (strs [ky])) := sl_madeAt _ (strs [ky]) _ _ (by simp) (by simp [strs])
      clear hbb
      go_wp2_with (at_builtin; refine wpList_app_strs rfl (.tmp 49) (.tmp 52) rfl W3.heap.size ad k c (strs (keys.take k)) rfl HOB.out (some ⟨wr.heap.size + 1, 0, none⟩) 1 1 [ky] rfl HSB.out (fun h => by cases h) (by omega) (by simp; omega) ?_; intro ad2 c2 w2 hown2 hg2 hnn2; have HO2 := Lib.hid hown2; have HG2 := Lib.hid hg2; clear hown2 hg2 hnn2)
      go_roundw
      case rel =>
        refine ⟨k + 1, ad2, c2, by go_num, by omega, rfl, ?_, ?_⟩
        · have := HO2.out
          rw [← strs_app, HTK.out] at this
          exact this
        · exact ((Bel.alloc (Bel.alloc HBL.out _) _ : Bel W3 _) : Below _ _ _).grown HG2.out (by simp; omega) (own_base HOB.out)
      case measure => simp [intOf]; omega
    · obtain rfl : k = n := by omega
      have hkk : Sl wr ad k (strs keys) := by
        have := Own.sl HOW.out
        rwa [List.take_of_length_le (by rw [HN.out]; exact Nat.le_refl _)] at this
      have HB31 : Hid (Below W1.heap.size W1 wr) := HB3.out.trans (HBL.out.mono (by omega))
      have HRL2 : Hid (wr.heap[w.heap.size]? = some (.cells #[x0, x1, x2, x3, x4, x5, x6, x7, x8, x9, x10, x11, x12, x13, x14, x15] 30 (0, 0))) := (HB31.out.block _ (by omega)).trans HRL1.out
      have HRP2 : Hid (wr.heap[w.heap.size + 1]? = some (.cells #[.int .i64 kind, p1, .string name, p3, .slice cad k cc, p5] 34 (0, 0))) := (HB31.out.block _ (by omega)).trans HRP1.out
      have HRV2 : Hid (wr.heap[W.heap.size]? = some (.cells #[.string vnm, .int .i64 vty, .string vtx, .int .i64 vdt, .slice ad4 vn c4] 46 (0, 0))) := (HB31.out.block _ (by omega)).trans HRV1.out
      have HVW := Lib.hid (HV.out.below (HB1.out.trans (HB31.out.mono HB1.out.size)))
      have HII := Lib.hid (HIXY.out wr ad k c HWR.out HVW.out hkk)
      have k0 : wr.cell? ⟨w.heap.size, 0, none⟩ = some x0 := by rw [Lib.cell_of_heap HRL2.out]; rfl
      have k1 : wr.cell? ⟨w.heap.size, 1, none⟩ = some x1 := by rw [Lib.cell_of_heap HRL2.out]; rfl
      have k2 : wr.cell? ⟨w.heap.size, 2, none⟩ = some x2 := by rw [Lib.cell_of_heap HRL2.out]; rfl
      have k3 : wr.cell? ⟨w.heap.size, 3, none⟩ = some x3 := by rw [Lib.cell_of_heap HRL2.out]; rfl
      have k4 : wr.cell? ⟨w.heap.size, 4, none⟩ = some x4 := by rw [Lib.cell_of_heap HRL2.out]; rfl
      have k5 : wr.cell? ⟨w.heap.size, 5, none⟩ = some x5 := by rw [Lib.cell_of_heap HRL2.out]; rfl
      have k6 : wr.cell? ⟨w.heap.size, 6, none⟩ = some x6 := by rw [Lib.cell_of_heap HRL2.out]; rfl
      have k7 : wr.cell? ⟨w.heap.size, 7, none⟩ = some x7 := by rw [Lib.cell_of_heap HRL2.out]; rfl
      have k8 : wr.cell? ⟨w.heap.size, 8, none⟩ = some x8 := by rw [Lib.cell_of_heap HRL2.out]; rfl
      have k9 : wr.cell? ⟨w.heap.size, 9, none⟩ = some x9 := by rw [Lib.cell_of_heap HRL2.out]; rfl
      have k10 : wr.cell? ⟨w.heap.size, 10, none⟩ = some x10 := by rw [Lib.cell_of_heap HRL2.out]; rfl
      have k11 : wr.cell? ⟨w.heap.size, 11, none⟩ = some x11 := by rw [Lib.cell_of_heap HRL2.out]; rfl
      have k12 : wr.cell? ⟨w.heap.size, 12, none⟩ = some x12 := by rw [Lib.cell_of_heap HRL2.out]; rfl
      have k13 : wr.cell? ⟨w.heap.size, 13, none⟩ = some x13 := by rw [Lib.cell_of_heap HRL2.out]; rfl
      have k14 : wr.cell? ⟨w.heap.size, 14, none⟩ = some x14 := by rw [Lib.cell_of_heap HRL2.out]; rfl
      have k15 : wr.cell? ⟨w.heap.size, 15, none⟩ = some x15 := by rw [Lib.cell_of_heap HRL2.out]; rfl
      have q0 : wr.cell? ⟨w.heap.size + 1, 0, none⟩ = some (.int .i64 kind) := by rw [Lib.cell_of_heap HRP2.out]; rfl
      have q4 : wr.cell? ⟨w.heap.size + 1, 4, none⟩ = some (.slice cad k cc) := by rw [Lib.cell_of_heap HRP2.out]; rfl
      have r0 : wr.cell? ⟨W.heap.size, 0, none⟩ = some (.string vnm) := by rw [Lib.cell_of_heap HRV2.out]; rfl
      have r1 : wr.cell? ⟨W.heap.size, 1, none⟩ = some (.int .i64 vty) := by rw [Lib.cell_of_heap HRV2.out]; rfl
      have r2 : wr.cell? ⟨W.heap.size, 2, none⟩ = some (.string vtx) := by rw [Lib.cell_of_heap HRV2.out]; rfl
      have r3 : wr.cell? ⟨W.heap.size, 3, none⟩ = some (.int .i64 vdt) := by rw [Lib.cell_of_heap HRV2.out]; rfl
      have r4 : wr.cell? ⟨W.heap.size, 4, none⟩ = some (.slice ad4 vn c4) := by rw [Lib.cell_of_heap HRV2.out]; rfl
      clear hkk
      go_wp2_with fail
      refine (Calls.toExt HII.out).mono ?_
      rintro e _ ⟨rfl, u9, rfl⟩
      go_wp2_with fail
      go_ret2
      exact ⟨rfl, Bel.ext HWR.out _⟩
set_option maxRecDepth 20000 in
set_option maxHeartbeats 16000000 in
theorem choose_hit (x p : Nat → Value) (a b : List (ByteArray × List (List Rel))) (kind : Int) (name : ByteArray) (keys : List ByteArray) (vs : List Vl) (vv : Value) (w : World) (h : LocC w x a b) (hp0 : p 0 = .int .i64 kind) (hp2 : p 2 = .string name) (hk : RowsOf 2 CaseC w (p 4) keys) (hkl : keys.length * 40 ≤ 140737488355328)
    (hvv : ValsAt w vv vs) (hfv : FewV1 vs) (ha : FewC a) (hb : FewC b) (j : Nat) (h1 : decide (7 ≤ kind ∧ kind ≤ 9) = true) (h2 : validR (rulesV kind a b) = true) (h5 : (getV vs name).isSome = true) (h3 : suitV kind (valOf vs name) = true) (h4 : firstK keys (wantV kind (rulesV kind a b) (valOf vs name).tx) = (j : Int)) :
    Calls Tryz.prog 11 #[.agg #[x 0, x 1, x 2, x 3, x 4, x 5, x 6, x 7, x 8, x 9, x 10, x 11, x 12, x 13, x 14, x 15], .agg #[p 0, p 1, p 2, p 3, p 4, p 5], vv] w fun e w' => e = .returned (.tuple #[.int .i64 (j : Int), .int .i64 0]) ∧ Below w.heap.size w w' := by
  have hG : ∀ W, Below w.heap.size w W → Calls Tryz.prog 23 #[vv, .string name] W (GetP W vs name) := fun W g => get_any vv vs name W (hvv.below g) (fun v hv => by have := (hfv v hv).2; omega)
  have hs : (valOf vs name).tx.size ≤ 1000 := valOf_tx hfv name
  have HSL : Hid (∀ W, Calls Tryz.prog 24 #[.int .i64 kind] W fun e w' => e = .returned (.bool true) ∧ W = w') := fun W => by have := selection_any kind W; rwa [h1] at this
  have HRU : Hid (∀ W, Calls Tryz.prog 26 #[.agg #[x 0, x 1, x 2, x 3, x 4, x 5, x 6, x 7, x 8, x 9, x 10, x 11, x 12, x 13, x 14, x 15], .int .i64 kind] W fun e w' => e = .returned (valR x kind) ∧ Below W.heap.size W w') := fun W => crules_any x kind W
  have HVA : Hid (∀ W, Below w.heap.size w W → Calls Tryz.prog 25 #[valR x kind] W fun e w' => e = .returned (.bool true) ∧ Below W.heap.size W w') := fun W g => by have := pvalid_any _ _ W ((rules_at h kind).below g) (few_rules ha hb kind); rwa [h2] at this
  have HSU : Hid (∀ y W, ValC W y (valOf vs name) → Calls Tryz.prog 27 #[.int .i64 kind, .agg #[y 0, y 1, y 2, y 3, y 4]] W fun e w' => e = .returned (.bool true) ∧ Below W.heap.size W w') := fun y W g => by have := suitable_any y kind _ W g hs; rwa [h3] at this
  have HIX : Hid (∀ y W kad kn kc, Below w.heap.size w W → ValC W y (valOf vs name) → Sl W kad kn (strs keys) → Calls Tryz.prog 28 #[.agg #[x 0, x 1, x 2, x 3, x 4, x 5, x 6, x 7, x 8, x 9, x 10, x 11, x 12, x 13, x 14, x 15], .int .i64 kind, .slice kad kn kc, .agg #[y 0, y 1, y 2, y 3, y 4]] W fun e w' => e = .returned (.int .i64 (j : Int)) ∧ Below W.heap.size W w') := fun y W kad kn kc g hv hkk => by have := cindex_any x y a b kind kad kn kc keys _ W (h.below g) hkk hv ha hb hs; rwa [h4] at this
  have HG := Lib.hid hG
  rw [Hid] at HG; unfold GetP at HG; rw [h5] at HG; replace HG := Lib.hid HG
  clear hG h h1 h2 h3 h4 h5 ha hb hs hvv hfv
  obtain ⟨cad, cc, cf, cb, coff, hp4, hcr, _, _, _, hcf⟩ := hk
  obtain ⟨n, hn⟩ : ∃ n, keys.length = n := ⟨_, rfl⟩
  rw [hn] at hcr hp4 hkl
  rw [hp0, hp2, hp4]
  have HN := Lib.hid hn
  have HCR := Lib.hid hcr
  have HCF := Lib.hid hcf
  clear hn hcr hcf hp0 hp2 hp4
  generalize valR x kind = vr at *
  generalize x 0 = x0 at *
  generalize x 1 = x1 at *
  generalize x 2 = x2 at *
  generalize x 3 = x3 at *
  generalize x 4 = x4 at *
  generalize x 5 = x5 at *
  generalize x 6 = x6 at *
  generalize x 7 = x7 at *
  generalize x 8 = x8 at *
  generalize x 9 = x9 at *
  generalize x 10 = x10 at *
  generalize x 11 = x11 at *
  generalize x 12 = x12 at *
  generalize x 13 = x13 at *
  generalize x 14 = x14 at *
  generalize x 15 = x15 at *
  generalize p 1 = p1 at *
  generalize p 3 = p3 at *
  generalize p 5 = p5 at *
  go_enter Tryz.func11, Tryz.ntmps11
  go_wp2_with fail
  refine (HG.out _ ?_).mono ?_
  · show Bel w _; repeat (first | exact Bel.refl _ | refine Bel.drew ?_ | refine Bel.drewN ?_ _ | refine Bel.alloc ?_ _ | refine Bel.ext ?_ _)
  rintro e W ⟨y, rfl, hbG, hv⟩
  have HBW : Hid (Below w.heap.size w W) := Below.trans (by show Bel w _; exact ((Bel.refl _).alloc _).alloc _) (hbG.mono (by simp; omega))
  have HRL : Hid (W.heap[w.heap.size]? = some (.cells #[x0, x1, x2, x3, x4, x5, x6, x7, x8, x9, x10, x11, x12, x13, x14, x15] 30 (0, 0))) := (hbG.block _ (by simp; omega)).trans ((Below.heap_alloc _ _ _ (by simp)).trans (row_first w _ _))
  have HRP : Hid (W.heap[w.heap.size + 1]? = some (.cells #[.int .i64 kind, p1, .string name, p3, .slice cad n cc, p5] 34 (0, 0))) := (hbG.block _ (by simp)).trans (row_second w _ _ _)
  have hz : w.heap.size + 1 < W.heap.size := by have := hbG.size; simp at this; omega
  obtain ⟨y0, _, y1, y2, _, y3, ad4, c4, _, _, _, y4, _, _, _, _, _⟩ := id hv
  have HV := Lib.hid hv
  rw [y0, y1, y2, y3, y4]
  have HSUY := HSU.out y
  rw [y0, y1, y2, y3, y4] at HSUY
  replace HSUY := Lib.hid HSUY
  have HIXY := HIX.out y
  rw [y0, y1, y2, y3, y4] at HIXY
  replace HIXY := Lib.hid HIXY
  clear HIX
  clear HSU
  generalize valOf vs name = v at *
  generalize v.nm = vnm at *
  generalize v.ty = vty at *
  generalize v.tx = vtx at *
  generalize v.dt = vdt at *
  generalize v.li.length = vn at *
  clear hbG hv y0 y1 y2 y3 y4 HG
  have pk0 : W.cell? ⟨w.heap.size + 1, 0, none⟩ = some (.int .i64 kind) := by rw [Lib.cell_of_heap HRP.out]; rfl
  go_wp2_with fail
  refine (HSL.out _).mono ?_
  rintro e W1 ⟨rfl, hW1⟩
  have HB1 : Hid (Below W.heap.size W W1) := by rw [← hW1]; exact (Below.refl _ _).alloc (Nat.le_refl _) _
  have HBW1 : Hid (Below w.heap.size w W1) := HBW.out.trans (HB1.out.mono (by omega))
  have hz1 : W.heap.size < W1.heap.size := by rw [← hW1]; simp
  have HRV1 : Hid (W1.heap[W.heap.size]? = some (.cells #[.string vnm, .int .i64 vty, .string vtx, .int .i64 vdt, .slice ad4 vn c4] 46 (0, 0))) := by rw [← hW1]; exact row_first W _ _
  have HRL1 : Hid (W1.heap[w.heap.size]? = some (.cells #[x0, x1, x2, x3, x4, x5, x6, x7, x8, x9, x10, x11, x12, x13, x14, x15] 30 (0, 0))) := (HB1.out.block _ (by omega)).trans HRL.out
  have HRP1 : Hid (W1.heap[w.heap.size + 1]? = some (.cells #[.int .i64 kind, p1, .string name, p3, .slice cad n cc, p5] 34 (0, 0))) := (HB1.out.block _ (by omega)).trans HRP.out
  clear hW1 pk0
  have k0 : W1.cell? ⟨w.heap.size, 0, none⟩ = some x0 := by rw [Lib.cell_of_heap HRL1.out]; rfl
  have k1 : W1.cell? ⟨w.heap.size, 1, none⟩ = some x1 := by rw [Lib.cell_of_heap HRL1.out]; rfl
  have k2 : W1.cell? ⟨w.heap.size, 2, none⟩ = some x2 := by rw [Lib.cell_of_heap HRL1.out]; rfl
  have k3 : W1.cell? ⟨w.heap.size, 3, none⟩ = some x3 := by rw [Lib.cell_of_heap HRL1.out]; rfl
  have k4 : W1.cell? ⟨w.heap.size, 4, none⟩ = some x4 := by rw [Lib.cell_of_heap HRL1.out]; rfl
  have k5 : W1.cell? ⟨w.heap.size, 5, none⟩ = some x5 := by rw [Lib.cell_of_heap HRL1.out]; rfl
  have k6 : W1.cell? ⟨w.heap.size, 6, none⟩ = some x6 := by rw [Lib.cell_of_heap HRL1.out]; rfl
  have k7 : W1.cell? ⟨w.heap.size, 7, none⟩ = some x7 := by rw [Lib.cell_of_heap HRL1.out]; rfl
  have k8 : W1.cell? ⟨w.heap.size, 8, none⟩ = some x8 := by rw [Lib.cell_of_heap HRL1.out]; rfl
  have k9 : W1.cell? ⟨w.heap.size, 9, none⟩ = some x9 := by rw [Lib.cell_of_heap HRL1.out]; rfl
  have k10 : W1.cell? ⟨w.heap.size, 10, none⟩ = some x10 := by rw [Lib.cell_of_heap HRL1.out]; rfl
  have k11 : W1.cell? ⟨w.heap.size, 11, none⟩ = some x11 := by rw [Lib.cell_of_heap HRL1.out]; rfl
  have k12 : W1.cell? ⟨w.heap.size, 12, none⟩ = some x12 := by rw [Lib.cell_of_heap HRL1.out]; rfl
  have k13 : W1.cell? ⟨w.heap.size, 13, none⟩ = some x13 := by rw [Lib.cell_of_heap HRL1.out]; rfl
  have k14 : W1.cell? ⟨w.heap.size, 14, none⟩ = some x14 := by rw [Lib.cell_of_heap HRL1.out]; rfl
  have k15 : W1.cell? ⟨w.heap.size, 15, none⟩ = some x15 := by rw [Lib.cell_of_heap HRL1.out]; rfl
  have q0 : W1.cell? ⟨w.heap.size + 1, 0, none⟩ = some (.int .i64 kind) := by rw [Lib.cell_of_heap HRP1.out]; rfl
  have q4 : W1.cell? ⟨w.heap.size + 1, 4, none⟩ = some (.slice cad n cc) := by rw [Lib.cell_of_heap HRP1.out]; rfl
  have r0 : W1.cell? ⟨W.heap.size, 0, none⟩ = some (.string vnm) := by rw [Lib.cell_of_heap HRV1.out]; rfl
  have r1 : W1.cell? ⟨W.heap.size, 1, none⟩ = some (.int .i64 vty) := by rw [Lib.cell_of_heap HRV1.out]; rfl
  have r2 : W1.cell? ⟨W.heap.size, 2, none⟩ = some (.string vtx) := by rw [Lib.cell_of_heap HRV1.out]; rfl
  have r3 : W1.cell? ⟨W.heap.size, 3, none⟩ = some (.int .i64 vdt) := by rw [Lib.cell_of_heap HRV1.out]; rfl
  have r4 : W1.cell? ⟨W.heap.size, 4, none⟩ = some (.slice ad4 vn c4) := by rw [Lib.cell_of_heap HRV1.out]; rfl
  have l1 : w.heap.size < W1.heap.size := by omega
  have l2 : w.heap.size + 1 < W1.heap.size := by omega
  go_wp2_with fail
  refine (Calls.toExt (HRU.out _)).mono ?_
  rintro e _ ⟨rfl, u1, rfl⟩
  go_wp2_with fail
  refine (Calls.toExt (HVA.out _ ?_)).mono ?_
  · show Bel w _; exact Bel.ext HBW1.out _
  rintro e _ ⟨rfl, u2, rfl⟩
  have l3 : w.heap.size < u1.1.heap.size := by have := u1.2.size; omega
  have l4 : w.heap.size + 1 < u1.1.heap.size := by have := u1.2.size; omega
  have l5 : W.heap.size < u1.1.heap.size := by have := u1.2.size; omega
  go_wp2_with fail
  refine (HSUY.out _ ?_).mono ?_
  · exact (HV.out.below (HB1.out.trans ((u1.2.trans (u2.2.mono u1.2.size)).mono HB1.out.size)))
  rintro e W3 ⟨rfl, hb3⟩
  have HB3 : Hid (Below W1.heap.size W1 W3) := (u1.2.trans (u2.2.mono u1.2.size)).trans (hb3.mono (by have := u1.2.size; have := u2.2.size; omega))
  clear hb3
  have HBW3 : Hid (Below w.heap.size w W3) := HBW1.out.trans (HB3.out.mono (by omega))
  have m1 := HB3.out.size
  have t4 : W3.cell? ⟨w.heap.size + 1, 4, none⟩ = some (.slice cad n cc) := (HB3.out.cell (p := ⟨w.heap.size + 1, 4, none⟩) l2).trans q4
  clear k0 k1 k2 k3 k4 k5 k6 k7 k8 k9 k10 k11 k12 k13 k14 k15 q0 q4 r0 r1 r2 r3 r4 l3 l4 l5
  go_wp2_with fail
  go_loopw [10, 45] (fun t v wr => ∃ (k : Nat) (ad : Option Addr) (c : Nat), v = .int .i64 (k : Int) ∧ k ≤ n ∧ t = .slice ad k c ∧ wr.ownsRow W3.heap.size 9 1 (.slice ad k c) k (strs (keys.take k)) ∧ Below W3.heap.size W3 wr) (fun _ v _ => n - (intOf v).toNat)
  case atStart => exact ⟨0, none, 0, rfl, Nat.zero_le _, rfl, ⟨rfl, .inl ⟨rfl, rfl⟩⟩, Below.refl _ _⟩
  case round =>
    obtain ⟨k, ad, c, rfl, hkn, rfl, hown, hbl⟩ := hrel
    have HOW := Lib.hid hown
    have HBL := Lib.hid hbl
    have hzr := hbl.size
    have HWR : Hid (Below w.heap.size w wr) := HBW3.out.trans (hbl.mono HBW3.out.size)
    clear hown hbl
    by_cases hlt : k < n
    · have hrr := HCR.out.below HWR.out
      have hix := fun W => hrr.ix 31 44 Tryz.underlying31 (by kernel_rfl) (by omega) hlt cc W
      have c0 : wr.cell? ⟨cb, coff + k * 2, none⟩ = some (cf k 0) := hrr.cell k 0 hlt (by omega)
      have c1 : wr.cell? ⟨cb, coff + k * 2 + 1, none⟩ = some (cf k 1) := hrr.cell k 1 hlt (by omega)
      have hk0 : k < keys.length := by rw [HN.out]; exact hlt
      obtain ⟨g0, a5, m5, c5, g1⟩ := RowsOf.get HCF.out hk0 ByteArray.empty
      rw [g0] at c0
      rw [g1] at c1
      have HTK : Hid (keys.take k ++ [keys.getD k .empty] = keys.take (k + 1)) := by
        unfold Hid
        rw [List.take_succ_eq_append_getElem hk0]
        simp [List.getD, List.getElem?_eq_getElem hk0]
      clear hrr g0 g1 hk0
      generalize keys.getD k .empty = ky at *
      have hbb : Below wr.heap.size wr ((wr.alloc (.cells #[.string ky, .slice a5 m5 c5] 44)).alloc (.cells #[.string ky] 9)) := Bel.alloc (Bel.alloc (Bel.refl _) _) _
      have HBB := Lib.hid hbb
      have HOB := Lib.hid (Own.below HOW.out hbb)
      have HSB : Hid (Sl ((wr.alloc (.cells #[.string ky, .slice a5 m5 c5] 44)).alloc (.cells #[.string ky] 9)) (some ⟨wr.heap.size + 1, 0, none⟩) 1 (strs [ky])) := sl_madeAt _ (strs [ky]) _ _ (by simp) (by simp [strs])
      clear hbb
      go_wp2_with (at_builtin; refine wpList_app_strs rfl (.tmp 49) (.tmp 52) rfl W3.heap.size ad k c (strs (keys.take k)) rfl HOB.out (some ⟨wr.heap.size + 1, 0, none⟩) 1 1 [ky] rfl HSB.out (fun h => by cases h) (by omega) (by simp; omega) ?_; intro ad2 c2 w2 hown2 hg2 hnn2; have HO2 := Lib.hid hown2; have HG2 := Lib.hid hg2; clear hown2 hg2 hnn2)
      go_roundw
      case rel =>
        refine ⟨k + 1, ad2, c2, by go_num, by omega, rfl, ?_, ?_⟩
        · have := HO2.out
          rw [← strs_app, HTK.out] at this
          exact this
        · exact ((Bel.alloc (Bel.alloc HBL.out _) _ : Bel W3 _) : Below _ _ _).grown HG2.out (by simp; omega) (own_base HOB.out)
      case measure => simp [intOf]; omega
    · obtain rfl : k = n := by omega
      have hkk : Sl wr ad k (strs keys) := by
        have := Own.sl HOW.out
        rwa [List.take_of_length_le (by rw [HN.out]; exact Nat.le_refl _)] at this
      have HB31 : Hid (Below W1.heap.size W1 wr) := HB3.out.trans (HBL.out.mono (by omega))
      have HRL2 : Hid (wr.heap[w.heap.size]? = some (.cells #[x0, x1, x2, x3, x4, x5, x6, x7, x8, x9, x10, x11, x12, x13, x14, x15] 30 (0, 0))) := (HB31.out.block _ (by omega)).trans HRL1.out
      have HRP2 : Hid (wr.heap[w.heap.size + 1]? = some (.cells #[.int .i64 kind, p1, .string name, p3, .slice cad k cc, p5] 34 (0, 0))) := (HB31.out.block _ (by omega)).trans HRP1.out
      have HRV2 : Hid (wr.heap[W.heap.size]? = some (.cells #[.string vnm, .int .i64 vty, .string vtx, .int .i64 vdt, .slice ad4 vn c4] 46 (0, 0))) := (HB31.out.block _ (by omega)).trans HRV1.out
      have HVW := Lib.hid (HV.out.below (HB1.out.trans (HB31.out.mono HB1.out.size)))
      have HII := Lib.hid (HIXY.out wr ad k c HWR.out HVW.out hkk)
      have k0 : wr.cell? ⟨w.heap.size, 0, none⟩ = some x0 := by rw [Lib.cell_of_heap HRL2.out]; rfl
      have k1 : wr.cell? ⟨w.heap.size, 1, none⟩ = some x1 := by rw [Lib.cell_of_heap HRL2.out]; rfl
      have k2 : wr.cell? ⟨w.heap.size, 2, none⟩ = some x2 := by rw [Lib.cell_of_heap HRL2.out]; rfl
      have k3 : wr.cell? ⟨w.heap.size, 3, none⟩ = some x3 := by rw [Lib.cell_of_heap HRL2.out]; rfl
      have k4 : wr.cell? ⟨w.heap.size, 4, none⟩ = some x4 := by rw [Lib.cell_of_heap HRL2.out]; rfl
      have k5 : wr.cell? ⟨w.heap.size, 5, none⟩ = some x5 := by rw [Lib.cell_of_heap HRL2.out]; rfl
      have k6 : wr.cell? ⟨w.heap.size, 6, none⟩ = some x6 := by rw [Lib.cell_of_heap HRL2.out]; rfl
      have k7 : wr.cell? ⟨w.heap.size, 7, none⟩ = some x7 := by rw [Lib.cell_of_heap HRL2.out]; rfl
      have k8 : wr.cell? ⟨w.heap.size, 8, none⟩ = some x8 := by rw [Lib.cell_of_heap HRL2.out]; rfl
      have k9 : wr.cell? ⟨w.heap.size, 9, none⟩ = some x9 := by rw [Lib.cell_of_heap HRL2.out]; rfl
      have k10 : wr.cell? ⟨w.heap.size, 10, none⟩ = some x10 := by rw [Lib.cell_of_heap HRL2.out]; rfl
      have k11 : wr.cell? ⟨w.heap.size, 11, none⟩ = some x11 := by rw [Lib.cell_of_heap HRL2.out]; rfl
      have k12 : wr.cell? ⟨w.heap.size, 12, none⟩ = some x12 := by rw [Lib.cell_of_heap HRL2.out]; rfl
      have k13 : wr.cell? ⟨w.heap.size, 13, none⟩ = some x13 := by rw [Lib.cell_of_heap HRL2.out]; rfl
      have k14 : wr.cell? ⟨w.heap.size, 14, none⟩ = some x14 := by rw [Lib.cell_of_heap HRL2.out]; rfl
      have k15 : wr.cell? ⟨w.heap.size, 15, none⟩ = some x15 := by rw [Lib.cell_of_heap HRL2.out]; rfl
      have q0 : wr.cell? ⟨w.heap.size + 1, 0, none⟩ = some (.int .i64 kind) := by rw [Lib.cell_of_heap HRP2.out]; rfl
      have q4 : wr.cell? ⟨w.heap.size + 1, 4, none⟩ = some (.slice cad k cc) := by rw [Lib.cell_of_heap HRP2.out]; rfl
      have r0 : wr.cell? ⟨W.heap.size, 0, none⟩ = some (.string vnm) := by rw [Lib.cell_of_heap HRV2.out]; rfl
      have r1 : wr.cell? ⟨W.heap.size, 1, none⟩ = some (.int .i64 vty) := by rw [Lib.cell_of_heap HRV2.out]; rfl
      have r2 : wr.cell? ⟨W.heap.size, 2, none⟩ = some (.string vtx) := by rw [Lib.cell_of_heap HRV2.out]; rfl
      have r3 : wr.cell? ⟨W.heap.size, 3, none⟩ = some (.int .i64 vdt) := by rw [Lib.cell_of_heap HRV2.out]; rfl
      have r4 : wr.cell? ⟨W.heap.size, 4, none⟩ = some (.slice ad4 vn c4) := by rw [Lib.cell_of_heap HRV2.out]; rfl
      clear hkk
      have hj0 : ¬ ((j : Int) < 0) := by omega
      go_wp2_with fail
      refine (Calls.toExt HII.out).mono ?_
      rintro e _ ⟨rfl, u9, rfl⟩
      go_wp2_with fail
      go_ret2
      exact ⟨rfl, Bel.ext HWR.out _⟩
end Go.Proofs.YtadhblppeaamlaaGreatDoor
/- Walks: the reference's Get and Keys. -/
namespace Go.Proofs.YtadhblppeaamlaaGreatDoor
open Go.RowKit
attribute [local go_sem] Ext.cell Ext.frozen
attribute [local go_sem ↓] Go.wp_at_zero Go.wp_at_succ

set_option maxRecDepth 20000 in
set_option maxHeartbeats 4000000 in
theorem rget_any (v : Value) (vs : List Vl) (name : ByteArray) (w : World) (h : ValsAt w v vs) : Calls Tryz.prog 29 #[v, .string name] w (GetP w vs name) := by
  obtain ⟨ad, c, f, b, off, rfl, hr, _, _, _, hf⟩ := h
  obtain ⟨n, hn⟩ : ∃ n, vs.length = n := ⟨_, rfl⟩
  rw [hn] at hr ⊢
  have HN := Lib.hid hn
  have HR := Lib.hid hr
  have HF := Lib.hid hf
  have hkm := hr.max
  clear hr hf hn
  obtain ⟨R, hR⟩ : ∃ R, getV vs name = R := ⟨_, rfl⟩
  have HRR := Lib.hid hR
  have HGP : Hid (∀ e w', (∃ y : Nat → Value, e = .returned (.tuple #[.agg #[y 0, y 1, y 2, y 3, y 4], .bool R.isSome]) ∧ Below w.heap.size w w' ∧ ValC w' y (R.getD vl0)) → GetP w vs name e w') := fun e w' h => by
    unfold GetP valOf
    rw [hR]
    exact h
  clear hR
  go_enter Tryz.func29, Tryz.ntmps29
  go_wp2_with fail
  go_loop [6] (fun v => ∃ k : Nat, v = .int .i64 (k : Int) ∧ k ≤ n ∧ (∀ i, i < k → ((vs.getD i vl0).nm == name) = false)) (fun v => n - (intOf v).toNat)
  case atStart => exact ⟨0, rfl, Nat.zero_le _, fun i hi => absurd hi (Nat.not_lt_zero _)⟩
  case round =>
    obtain ⟨k, rfl, hkn, hal⟩ := hrel
    have HAL := Lib.hid hal
    clear hal
    by_cases hlt : k < n
    · have hix := fun W => HR.out.ix 35 46 Tryz.underlying35 (by kernel_rfl) (by omega) hlt c W
      have hk0 : k < vs.length := by rw [HN.out]; exact hlt
      have hv := RowsOf.get HF.out hk0 vl0
      obtain ⟨e0, s0, e1, e2, s2, e3, r4⟩ := id hv
      obtain ⟨ad4, c4, e4⟩ : ∃ ad4 c4, f k 4 = .slice ad4 (vs.getD k vl0).li.length c4 := by obtain ⟨ad4, c4, _, _, _, e4, _⟩ := r4; exact ⟨ad4, c4, e4⟩
      have c0' := HR.out.cell k 0 hlt (by omega)
      have c1' := HR.out.cell k 1 hlt (by omega)
      have c2' := HR.out.cell k 2 hlt (by omega)
      have c3' := HR.out.cell k 3 hlt (by omega)
      have c4' := HR.out.cell k 4 hlt (by omega)
      rw [e0, Nat.add_zero] at c0'
      rw [e1] at c1'
      rw [e2] at c2'
      rw [e3] at c3'
      rw [e4] at c4'
      have d0 := fun o => Lib.cell?_alloc_some o c0'
      have d1 := fun o => Lib.cell?_alloc_some o c1'
      have d2 := fun o => Lib.cell?_alloc_some o c2'
      have d3 := fun o => Lib.cell?_alloc_some o c3'
      have d4 := fun o => Lib.cell?_alloc_some o c4'
      have HE := Lib.hid (And.intro e0 (And.intro e1 (And.intro e2 (And.intro e3 e4))))
      have HV := Lib.hid hv
      have HHIT : Hid (((vs.getD k vl0).nm == name) = true → R = some (vs.getD k vl0)) := fun h => by rw [← HRR.out]; exact find_hit hk0 h HAL.out
      have HMISS : Hid (((vs.getD k vl0).nm == name) = false → ∀ i, i < k + 1 → ((vs.getD i vl0).nm == name) = false) := fun h i hi => by
        by_cases e : i = k
        · subst e; exact h
        · exact HAL.out i (by omega)
      clear hv e0 e1 e2 e3 e4 s0 s2 r4 hk0 c0' c1' c2' c3' c4'
      generalize vs.getD k vl0 = q at *
      obtain ⟨nm, ty, tx, dt, li⟩ := q
      simp only at d0 d1 d2 d3 d4 HE HHIT HMISS
      generalize hm : li.length = m at d4 HE
      have HM := Lib.hid hm
      clear hm
      by_cases he : nm = name
      · have HO := Lib.hid (HHIT.out (by rw [he]; simp))
        subst he
        have e1 : (nm.toList == nm.toList) = true := by simp
        clear HHIT HMISS
        go_wp2_with fail
        refine bodyPost_ret (v := .tuple #[.agg #[.string nm, .int .i64 ty, .string tx, .int .i64 dt, .slice ad4 m c4], .bool true]) (by simp [results, Tryz.f29, go_sem]) rfl (HGP.out _ _ ?_)
        rw [HO.out]
        obtain ⟨g0, g1, g2, g3, g4⟩ := HE.out
        refine ⟨f k, by rw [g0, g1, g2, g3, g4]; rfl, by show Bel w _; exact Bel.alloc (Bel.refl _) _, ?_⟩
        exact HV.out.below (by show Bel w _; exact Bel.alloc (Bel.refl _) _)
      · have hf : (nm == name) = false := by rw [beq_eq_false_iff_ne]; exact he
        have HO := Lib.hid (HMISS.out hf)
        have e1 : (nm.toList == name.toList) = false := by rw [beq_eq_false_iff_ne]; exact fun e => he (ByteArray.ext (by simpa [ByteArray.toList_eq] using e))
        clear he hf HHIT HMISS
        go_wp2_with fail
        go_round
        case rel => exact ⟨k + 1, by go_num, by omega, HO.out⟩
        case measure => simp [intOf]; omega
    · obtain rfl : k = n := by omega
      have HO : Hid (R = none) := HRR.out.symm.trans (find_miss (d := vl0) (by rw [HN.out]; exact HAL.out))
      go_wp2_with fail
      refine bodyPost_ret (v := .tuple #[.agg #[.string ⟨#[]⟩, .int .i64 0, .string ⟨#[]⟩, .int .i64 0, .slice none 0 0], .bool false]) (by simp [results, Tryz.f29, go_sem]) rfl (HGP.out _ _ ?_)
      rw [HO.out]
      exact ⟨fun i => (#[.string ⟨#[]⟩, .int .i64 0, .string ⟨#[]⟩, .int .i64 0, .slice none 0 0] : Array Value).getD i undef, rfl, by show Bel w _; exact Bel.alloc (Bel.refl _) _, vl0_cells _⟩

set_option maxRecDepth 20000 in
set_option maxHeartbeats 8000000 in
theorem rkeys_any (p : Nat → Value) (keys : List ByteArray) (w : World) (hk : RowsOf 2 CaseC w (p 4) keys) (hkl : keys.length * 40 ≤ 140737488355328) :
    Calls Tryz.prog 14 #[.agg #[p 0, p 1, p 2, p 3, p 4, p 5]] w (WantP w keys) := by
  obtain ⟨cad, cc, cf, cb, coff, hp4, hcr, _, _, _, hcf⟩ := hk
  obtain ⟨n, hn⟩ : ∃ n, keys.length = n := ⟨_, rfl⟩
  rw [hn] at hcr hp4 hkl
  rw [hp4]
  have HN := Lib.hid hn
  have HCR := Lib.hid hcr
  have HCF := Lib.hid hcf
  clear hn hcr hcf hp4
  generalize p 0 = p0 at *
  generalize p 1 = p1 at *
  generalize p 2 = p2 at *
  generalize p 3 = p3 at *
  generalize p 5 = p5 at *
  go_enter Tryz.func14, Tryz.ntmps14
  go_wp2_with fail
  refine wp_at_worldT ?_
  intro W3 hW3
  have HBW : Hid (Below w.heap.size w W3) := by rw [hW3]; exact (Below.refl _ _).alloc (Nat.le_refl _) _
  have HP4 : Hid (W3.cell? ⟨w.heap.size, 4, none⟩ = some (.slice cad n cc)) := by rw [hW3]; unfold Hid; simp [go_sem]
  have hz : w.heap.size < W3.heap.size := by rw [hW3]; simp
  clear hW3
  go_loopw [3, 4] (fun t v wr => ∃ (k : Nat) (ad : Option Addr) (c : Nat), v = .int .i64 (k : Int) ∧ k ≤ n ∧ t = .slice ad k c ∧ wr.ownsRow W3.heap.size 9 1 (.slice ad k c) k (strs (keys.take k)) ∧ Below W3.heap.size W3 wr) (fun _ v _ => n - (intOf v).toNat)
  case atStart => exact ⟨0, none, 0, rfl, Nat.zero_le _, rfl, ⟨rfl, .inl ⟨rfl, rfl⟩⟩, Below.refl _ _⟩
  case round =>
    obtain ⟨k, ad, c, rfl, hkn, rfl, hown, hbl⟩ := hrel
    have HOW := Lib.hid hown
    have HBL := Lib.hid hbl
    have hzr := hbl.size
    have HWR : Hid (Below w.heap.size w wr) := HBW.out.trans (hbl.mono HBW.out.size)
    have q4 : wr.cell? ⟨w.heap.size, 4, none⟩ = some (.slice cad n cc) := (hbl.cell (p := ⟨w.heap.size, 4, none⟩) hz).trans HP4.out
    clear hown hbl
    by_cases hlt : k < n
    · have hrr := HCR.out.below HWR.out
      have hix := fun W => hrr.ix 31 44 Tryz.underlying31 (by kernel_rfl) (by omega) hlt cc W
      have c0 : wr.cell? ⟨cb, coff + k * 2, none⟩ = some (cf k 0) := hrr.cell k 0 hlt (by omega)
      have hk0 : k < keys.length := by rw [HN.out]; exact hlt
      obtain ⟨g0, a5, m5, c5, g1⟩ := RowsOf.get HCF.out hk0 ByteArray.empty
      rw [g0] at c0
      have HTK : Hid (keys.take k ++ [keys.getD k .empty] = keys.take (k + 1)) := by
        unfold Hid
        rw [List.take_succ_eq_append_getElem hk0]
        simp [List.getD, List.getElem?_eq_getElem hk0]
      clear hrr g0 g1 hk0
      generalize keys.getD k .empty = ky at *
      have hbb : Below wr.heap.size wr (wr.alloc (.cells #[.string ky] 9)) := Bel.alloc (Bel.refl _) _
      have HBB := Lib.hid hbb
      have HOB := Lib.hid (Own.below HOW.out hbb)
      have HSB : Hid (Sl (wr.alloc (.cells #[.string ky] 9)) (some ⟨wr.heap.size, 0, none⟩) 1 (strs [ky])) := sl_madeAt _ (strs [ky]) _ _ rfl (by simp [strs])
      clear hbb
      go_wp2_with (at_builtin; refine wpList_app_strs rfl (.tmp 12) (.tmp 19) rfl W3.heap.size ad k c (strs (keys.take k)) rfl HOB.out (some ⟨wr.heap.size, 0, none⟩) 1 1 [ky] rfl HSB.out (fun h => by cases h) (by omega) (by simp; omega) ?_; intro ad2 c2 w2 hown2 hg2 hnn2; have HO2 := Lib.hid hown2; have HG2 := Lib.hid hg2; clear hown2 hg2 hnn2)
      go_roundw
      case rel =>
        refine ⟨k + 1, ad2, c2, by go_num, by omega, rfl, ?_, ?_⟩
        · have := HO2.out
          rw [← strs_app, HTK.out] at this
          exact this
        · exact ((Bel.alloc HBL.out _ : Bel W3 _) : Below _ _ _).grown HG2.out (by simp; omega) (own_base HOB.out)
      case measure => simp [intOf]; omega
    · obtain rfl : k = n := by omega
      have hkk : Sl wr ad k (strs keys) := by
        have := Own.sl HOW.out
        rwa [List.take_of_length_le (by rw [HN.out]; exact Nat.le_refl _)] at this
      have HKK := Lib.hid hkk
      clear hkk
      go_wp2_with fail
      go_ret
      exact ⟨ad, k, c, rfl, HKK.out, HWR.out⟩
end Go.Proofs.YtadhblppeaamlaaGreatDoor
