/- ChooseExact: A key that is the very number or text is chosen if it is there; otherwise the class, if it is there; otherwise other. -/
import Derived.Test.YtadhblppeaamlaaGreatDoorS8
import Derived.Test.YtadhblppeaamlaaGreatDoorS9
import Derived.Test.YtadhblppeaamlaaGreatDoorSW
import Derived.Test.YtadhblppeaamlaaGreatDoorSX
namespace Go.Proofs.YtadhblppeaamlaaGreatDoor
open Go.RowKit
attribute [local go_sem] Ext.cell Ext.frozen
attribute [local go_sem ↓] Go.wp_at_zero Go.wp_at_succ

theorem row_third (w : World) (o o2 : Obj) (cs : Array Value) (t : TypeId) : (((w.alloc o).alloc o2).alloc (.cells cs t)).heap[w.heap.size + 2]? = some (.cells cs t (0, 0)) := by
  have := row_second (w.alloc o) o2 cs t
  rwa [World.size_alloc] at this
theorem exact_err {kind : Int} {keys : List ByteArray} {tx ka : ByteArray} {ke : Nat} {c : ByteArray × Nat} (hk : ke ≠ 0) (h : exactOk kind keys tx (ka, ke) c = true) : ka = .empty := by
  unfold exactOk at h
  rw [if_pos hk] at h
  exact of_decide_eq_true h
theorem exact_nine {keys : List ByteArray} {tx ka : ByteArray} {c : ByteArray × Nat} (h : exactOk 9 keys tx (ka, 0) c = true) : (keys.contains tx = true → ka = tx) ∧ (keys.contains tx = false → ka = otherB) := by
  unfold exactOk at h
  rw [if_neg (by simp), if_pos rfl] at h
  exact ⟨fun e => by rw [if_pos e] at h; exact of_decide_eq_true h, fun e => by rw [if_neg (by rw [e]; simp)] at h; exact of_decide_eq_true h⟩
theorem exact_other {kind : Int} {keys : List ByteArray} {tx ka ca : ByteArray} {ce : Nat} (h9 : ¬ kind = 9) (h : exactOk kind keys tx (ka, 0) (ca, ce) = true) : ce = 0 ∧ (keys.contains (bs (61 :: tx.data.toList)) = true → ka = bs (61 :: tx.data.toList)) ∧ (keys.contains (bs (61 :: tx.data.toList)) = false → ca ≠ .empty → keys.contains ca = true → ka = ca) ∧ (keys.contains (bs (61 :: tx.data.toList)) = false → ca = .empty ∨ keys.contains ca = false → ka = otherB) := by
  unfold exactOk at h
  rw [if_neg (by simp), if_neg h9] at h
  by_cases hc : ce = 0
  · rw [if_neg (by simp [hc])] at h
    refine ⟨hc, fun e => ?_, fun e e2 e3 => ?_, fun e e2 => ?_⟩
    · rw [if_pos e] at h; exact of_decide_eq_true h
    · rw [if_neg (by rw [e]; simp), if_pos ⟨e2, e3⟩] at h; exact of_decide_eq_true h
    · rw [if_neg (by rw [e]; simp), if_neg (by rintro ⟨a1, a2⟩; rcases e2 with e2 | e2; exact a1 e2; rw [e2] at a2; cases a2)] at h; exact of_decide_eq_true h
  · rw [if_pos hc] at h; cases h
set_option maxRecDepth 20000 in
set_option maxHeartbeats 16000000 in
theorem chooseExact_walk (x y : Nat → Value) (a b : List (ByteArray × List (List Rel))) (kind : Int) (qv : Value) (keys : List ByteArray) (v : Vl) (w : World) (h : LocC w x a b) (hk : RowsOf 1 StrC w qv keys) (hv : ValC w y v) :
    Calls Tryz.prog 8 #[.agg #[x 0, x 1, x 2, x 3, x 4, x 5, x 6, x 7, x 8, x 9, x 10, x 11, x 12, x 13, x 14, x 15], .agg #[.int .i64 kind, qv], .agg #[y 0, y 1, y 2, y 3, y 4]] w fun e w' => e = .returned (.bool true) ∧ Below w.heap.size w w' := by
  obtain ⟨vnm, vty, vtx, vdt, vli⟩ := v
  obtain ⟨kad, kc, rfl, hks, _⟩ := rows_sl hk
  obtain ⟨kn, hkn⟩ : ∃ kn, keys.length = kn := ⟨_, rfl⟩
  rw [hkn] at hks ⊢
  have hkm := hks.max
  have HKN := Lib.hid hkn
  have HA := Lib.hid awake31_any
  have HFR : Hid (∀ W, Below w.heap.size w W → Calls Tryz.prog 18 #[.agg #[x 0, x 1, x 2, x 3, x 4, x 5, x 6, x 7, x 8, x 9, x 10, x 11, x 12, x 13, x 14, x 15]] W (BoolIfB W (FewC a ∧ FewC b))) := fun W g => fewrules_any x a b W (h.below g)
  have HFV : Hid (∀ W e, Below w.heap.size w W → Calls Tryz.prog 19 #[.slice (some ⟨W.heap.size, 0, none⟩) 1 1] (W.alloc (.cells #[y 0, y 1, y 2, y 3, y 4] e)) (BoolIf (W.alloc (.cells #[y 0, y 1, y 2, y 3, y 4] e)) (FewV [⟨vnm, vty, vtx, vdt, vli⟩]))) := fun W e g => vfew_any _ [⟨vnm, vty, vtx, vdt, vli⟩] _ (rows_one (g := y) (fun j hj => by
    rcases (by omega : j = 0 ∨ j = 1 ∨ j = 2 ∨ j = 3 ∨ j = 4) with e | e | e | e | e <;> subst e <;> simp [go_sem]) ((hv.below g).below ((Below.refl _ _).alloc (Nat.le_refl _) _)))
  have HK1 : Hid (FewC a → FewC b → vtx.size ≤ 1000 → ∀ W, Below w.heap.size w W → Calls Tryz.prog 17 #[.agg #[x 0, x 1, x 2, x 3, x 4, x 5, x 6, x 7, x 8, x 9, x 10, x 11, x 12, x 13, x 14, x 15], .int .i64 kind, .slice kad kn kc, .agg #[y 0, y 1, y 2, y 3, y 4]] W fun e w' => e = .returned (.tuple #[.string (keyV kind (rulesV kind a b) keys ⟨vnm, vty, vtx, vdt, vli⟩).1, .int .i64 ((keyV kind (rulesV kind a b) keys ⟨vnm, vty, vtx, vdt, vli⟩).2 : Nat)]) ∧ Below W.heap.size W w') := fun ha hb hs W g => ckey_any x y a b kind kad kn kc keys ⟨vnm, vty, vtx, vdt, vli⟩ W (h.below g) (hks.below g) (hv.below g) ha hb hs
  have HC1 : Hid (FewC a → FewC b → vtx.size ≤ 1000 → ∀ W, Below w.heap.size w W → Calls Tryz.prog 16 #[.agg #[x 0, x 1, x 2, x 3, x 4, x 5, x 6, x 7, x 8, x 9, x 10, x 11, x 12, x 13, x 14, x 15], .int .i64 kind, .string vtx] W fun e w' => e = .returned (.tuple #[.string (clsV kind (rulesV kind a b) vtx.data.toList).1, .int .i64 ((clsV kind (rulesV kind a b) vtx.data.toList).2 : Nat)]) ∧ Below W.heap.size W w') := fun ha hb hs W g => cclass_any x a b kind vtx W (h.below g) ha hb hs
  have HIN : Hid (∀ s W, Below w.heap.size w W → Calls Tryz.prog 13 #[.slice kad kn kc, .string s] W fun e w' => e = .returned (.bool (keys.contains s)) ∧ W = w') := fun s W g => rin_str kad kn kc keys s W (hks.below g)
  have HEX : Hid (exactOk kind keys vtx (keyV kind (rulesV kind a b) keys ⟨vnm, vty, vtx, vdt, vli⟩) (clsV kind (rulesV kind a b) vtx.data.toList) = true) := exact_holds kind (rulesV kind a b) keys ⟨vnm, vty, vtx, vdt, vli⟩
  have HEQ : Hid ((⟨#[61]⟩ : ByteArray) ++ vtx = bs (61 :: vtx.data.toList)) := by
    have := bs_append [61] vtx.data.toList
    rw [bs_self] at this
    exact this
  have HKS := Lib.hid hks
  obtain ⟨y0, _, y1, y2, _, y3, ad4, c4, _, _, _, y4, _, _, _, _, _⟩ := id hv
  dsimp only at y0 y1 y2 y3 y4
  rw [y0, y1, y2, y3, y4]
  rw [Hid, y0, y1, y2, y3, y4] at HFV HK1
  replace HFV := Lib.hid HFV
  replace HK1 := Lib.hid HK1
  clear h hk hv hks hkn y0 y1 y2 y3 y4
  generalize x 0 = x0 at *
  generalize x 1 = x1 at *
  generalize x 2 = x2 at *
  generalize x 3 = x3 at *
  generalize x 4 = x4 at *
  generalize x 5 = x5 at *
  generalize x 6 = x6 at *
  generalize x 7 = x7 at *
  generalize x 8 = x8 at *
  generalize x 9 = x9 at *
  generalize x 10 = x10 at *
  generalize x 11 = x11 at *
  generalize x 12 = x12 at *
  generalize x 13 = x13 at *
  generalize x 14 = x14 at *
  generalize x 15 = x15 at *
  generalize vli.length = vn at *
  go_enter Tryz.func8, Tryz.ntmps8
  go_wp2_with fail
  refine (HA.out _).mono ?_
  rintro e W ⟨rfl, hbA⟩
  have HBW : Hid (Below w.heap.size w W) := Below.trans (by show Bel w _; exact (((Bel.refl _).alloc _).alloc _).alloc _) (hbA.mono (by simp; omega))
  have HRL : Hid (W.heap[w.heap.size]? = some (.cells #[x0, x1, x2, x3, x4, x5, x6, x7, x8, x9, x10, x11, x12, x13, x14, x15] 30 (0, 0))) := (hbA.block _ (by simp; omega)).trans ((Below.heap_alloc _ _ _ (by simp; omega)).trans ((Below.heap_alloc _ _ _ (by simp)).trans (row_first w _ _)))
  have HRQ : Hid (W.heap[w.heap.size + 1]? = some (.cells #[.int .i64 kind, .slice kad kn kc] 55 (0, 0))) := (hbA.block _ (by simp)).trans ((Below.heap_alloc _ _ _ (by simp)).trans (row_second w _ _ _))
  have HRV : Hid (W.heap[w.heap.size + 2]? = some (.cells #[.string vnm, .int .i64 vty, .string vtx, .int .i64 vdt, .slice ad4 vn c4] 46 (0, 0))) := (hbA.block _ (by simp)).trans (row_third w _ _ _ _)
  have hz : w.heap.size + 2 < W.heap.size := by have := hbA.size; simp at this; omega
  have z0 : w.heap.size < W.heap.size := by omega
  have z1 : w.heap.size + 1 < W.heap.size := by omega
  clear hbA
  have k0 : W.cell? ⟨w.heap.size, 0, none⟩ = some x0 := by rw [Lib.cell_of_heap HRL.out]; rfl
  have k1 : W.cell? ⟨w.heap.size, 1, none⟩ = some x1 := by rw [Lib.cell_of_heap HRL.out]; rfl
  have k2 : W.cell? ⟨w.heap.size, 2, none⟩ = some x2 := by rw [Lib.cell_of_heap HRL.out]; rfl
  have k3 : W.cell? ⟨w.heap.size, 3, none⟩ = some x3 := by rw [Lib.cell_of_heap HRL.out]; rfl
  have k4 : W.cell? ⟨w.heap.size, 4, none⟩ = some x4 := by rw [Lib.cell_of_heap HRL.out]; rfl
  have k5 : W.cell? ⟨w.heap.size, 5, none⟩ = some x5 := by rw [Lib.cell_of_heap HRL.out]; rfl
  have k6 : W.cell? ⟨w.heap.size, 6, none⟩ = some x6 := by rw [Lib.cell_of_heap HRL.out]; rfl
  have k7 : W.cell? ⟨w.heap.size, 7, none⟩ = some x7 := by rw [Lib.cell_of_heap HRL.out]; rfl
  have k8 : W.cell? ⟨w.heap.size, 8, none⟩ = some x8 := by rw [Lib.cell_of_heap HRL.out]; rfl
  have k9 : W.cell? ⟨w.heap.size, 9, none⟩ = some x9 := by rw [Lib.cell_of_heap HRL.out]; rfl
  have k10 : W.cell? ⟨w.heap.size, 10, none⟩ = some x10 := by rw [Lib.cell_of_heap HRL.out]; rfl
  have k11 : W.cell? ⟨w.heap.size, 11, none⟩ = some x11 := by rw [Lib.cell_of_heap HRL.out]; rfl
  have k12 : W.cell? ⟨w.heap.size, 12, none⟩ = some x12 := by rw [Lib.cell_of_heap HRL.out]; rfl
  have k13 : W.cell? ⟨w.heap.size, 13, none⟩ = some x13 := by rw [Lib.cell_of_heap HRL.out]; rfl
  have k14 : W.cell? ⟨w.heap.size, 14, none⟩ = some x14 := by rw [Lib.cell_of_heap HRL.out]; rfl
  have k15 : W.cell? ⟨w.heap.size, 15, none⟩ = some x15 := by rw [Lib.cell_of_heap HRL.out]; rfl
  have q0 : W.cell? ⟨w.heap.size + 1, 0, none⟩ = some (.int .i64 kind) := by rw [Lib.cell_of_heap HRQ.out]; rfl
  have q1 : W.cell? ⟨w.heap.size + 1, 1, none⟩ = some (.slice kad kn kc) := by rw [Lib.cell_of_heap HRQ.out]; rfl
  have r0 : W.cell? ⟨w.heap.size + 2, 0, none⟩ = some (.string vnm) := by rw [Lib.cell_of_heap HRV.out]; rfl
  have r1 : W.cell? ⟨w.heap.size + 2, 1, none⟩ = some (.int .i64 vty) := by rw [Lib.cell_of_heap HRV.out]; rfl
  have r2 : W.cell? ⟨w.heap.size + 2, 2, none⟩ = some (.string vtx) := by rw [Lib.cell_of_heap HRV.out]; rfl
  have r3 : W.cell? ⟨w.heap.size + 2, 3, none⟩ = some (.int .i64 vdt) := by rw [Lib.cell_of_heap HRV.out]; rfl
  have r4 : W.cell? ⟨w.heap.size + 2, 4, none⟩ = some (.slice ad4 vn c4) := by rw [Lib.cell_of_heap HRV.out]; rfl
  go_wp2_with fail
  refine (HFR.out _ HBW.out).mono ?_
  rintro e W2 ⟨qa, rfl, hb2, hqa⟩
  have HQA := Lib.hid hqa
  have HB2 : Hid (Below W.heap.size W W2) := hb2
  have HW2 : Hid (Below w.heap.size w W2) := HBW.out.trans (hb2.mono HBW.out.size)
  have HRL2 : Hid (W2.heap[w.heap.size]? = some (.cells #[x0, x1, x2, x3, x4, x5, x6, x7, x8, x9, x10, x11, x12, x13, x14, x15] 30 (0, 0))) := (hb2.block _ (by omega)).trans HRL.out
  have HRQ2 : Hid (W2.heap[w.heap.size + 1]? = some (.cells #[.int .i64 kind, .slice kad kn kc] 55 (0, 0))) := (hb2.block _ (by omega)).trans HRQ.out
  have HRV2 : Hid (W2.heap[w.heap.size + 2]? = some (.cells #[.string vnm, .int .i64 vty, .string vtx, .int .i64 vdt, .slice ad4 vn c4] 46 (0, 0))) := (hb2.block _ (by omega)).trans HRV.out
  have hz2 : w.heap.size + 2 < W2.heap.size := by have := hb2.size; omega
  have m0 : w.heap.size < W2.heap.size := by omega
  have m1 : w.heap.size + 1 < W2.heap.size := by omega
  clear hb2 hqa k0 k1 k2 k3 k4 k5 k6 k7 k8 k9 k10 k11 k12 k13 k14 k15 q0 q1 r0 r1 r2 r3 r4 hz z0 z1
  cases qa with
  | false =>
    go_wp2_with fail
    go_ret
    exact ⟨rfl, HW2.out⟩
  | true =>
    obtain ⟨hfa, hfb⟩ := HQA.out rfl
    have HFA := Lib.hid hfa
    have HFB := Lib.hid hfb
    clear hfa hfb HQA
    have k0 : W2.cell? ⟨w.heap.size, 0, none⟩ = some x0 := by rw [Lib.cell_of_heap HRL2.out]; rfl
    have k1 : W2.cell? ⟨w.heap.size, 1, none⟩ = some x1 := by rw [Lib.cell_of_heap HRL2.out]; rfl
    have k2 : W2.cell? ⟨w.heap.size, 2, none⟩ = some x2 := by rw [Lib.cell_of_heap HRL2.out]; rfl
    have k3 : W2.cell? ⟨w.heap.size, 3, none⟩ = some x3 := by rw [Lib.cell_of_heap HRL2.out]; rfl
    have k4 : W2.cell? ⟨w.heap.size, 4, none⟩ = some x4 := by rw [Lib.cell_of_heap HRL2.out]; rfl
    have k5 : W2.cell? ⟨w.heap.size, 5, none⟩ = some x5 := by rw [Lib.cell_of_heap HRL2.out]; rfl
    have k6 : W2.cell? ⟨w.heap.size, 6, none⟩ = some x6 := by rw [Lib.cell_of_heap HRL2.out]; rfl
    have k7 : W2.cell? ⟨w.heap.size, 7, none⟩ = some x7 := by rw [Lib.cell_of_heap HRL2.out]; rfl
    have k8 : W2.cell? ⟨w.heap.size, 8, none⟩ = some x8 := by rw [Lib.cell_of_heap HRL2.out]; rfl
    have k9 : W2.cell? ⟨w.heap.size, 9, none⟩ = some x9 := by rw [Lib.cell_of_heap HRL2.out]; rfl
    have k10 : W2.cell? ⟨w.heap.size, 10, none⟩ = some x10 := by rw [Lib.cell_of_heap HRL2.out]; rfl
    have k11 : W2.cell? ⟨w.heap.size, 11, none⟩ = some x11 := by rw [Lib.cell_of_heap HRL2.out]; rfl
    have k12 : W2.cell? ⟨w.heap.size, 12, none⟩ = some x12 := by rw [Lib.cell_of_heap HRL2.out]; rfl
    have k13 : W2.cell? ⟨w.heap.size, 13, none⟩ = some x13 := by rw [Lib.cell_of_heap HRL2.out]; rfl
    have k14 : W2.cell? ⟨w.heap.size, 14, none⟩ = some x14 := by rw [Lib.cell_of_heap HRL2.out]; rfl
    have k15 : W2.cell? ⟨w.heap.size, 15, none⟩ = some x15 := by rw [Lib.cell_of_heap HRL2.out]; rfl
    have q0 : W2.cell? ⟨w.heap.size + 1, 0, none⟩ = some (.int .i64 kind) := by rw [Lib.cell_of_heap HRQ2.out]; rfl
    have q1 : W2.cell? ⟨w.heap.size + 1, 1, none⟩ = some (.slice kad kn kc) := by rw [Lib.cell_of_heap HRQ2.out]; rfl
    have r0 : W2.cell? ⟨w.heap.size + 2, 0, none⟩ = some (.string vnm) := by rw [Lib.cell_of_heap HRV2.out]; rfl
    have r1 : W2.cell? ⟨w.heap.size + 2, 1, none⟩ = some (.int .i64 vty) := by rw [Lib.cell_of_heap HRV2.out]; rfl
    have r2 : W2.cell? ⟨w.heap.size + 2, 2, none⟩ = some (.string vtx) := by rw [Lib.cell_of_heap HRV2.out]; rfl
    have r3 : W2.cell? ⟨w.heap.size + 2, 3, none⟩ = some (.int .i64 vdt) := by rw [Lib.cell_of_heap HRV2.out]; rfl
    have r4 : W2.cell? ⟨w.heap.size + 2, 4, none⟩ = some (.slice ad4 vn c4) := by rw [Lib.cell_of_heap HRV2.out]; rfl
    go_wp2_with fail
    refine (HFV.out _ _ HW2.out).mono ?_
    rintro e W3 ⟨qb, rfl, hW3, hqb⟩
    have HQB := Lib.hid hqb
    have HB3 : Hid (Below W2.heap.size W2 W3) := by rw [← hW3]; exact (Below.refl _ _).alloc (Nat.le_refl _) _
    have HW3 : Hid (Below w.heap.size w W3) := HW2.out.trans (HB3.out.mono HW2.out.size)
    have HRL3 : Hid (W3.heap[w.heap.size]? = some (.cells #[x0, x1, x2, x3, x4, x5, x6, x7, x8, x9, x10, x11, x12, x13, x14, x15] 30 (0, 0))) := (HB3.out.block _ (by omega)).trans HRL2.out
    have HRQ3 : Hid (W3.heap[w.heap.size + 1]? = some (.cells #[.int .i64 kind, .slice kad kn kc] 55 (0, 0))) := (HB3.out.block _ (by omega)).trans HRQ2.out
    have HRV3 : Hid (W3.heap[w.heap.size + 2]? = some (.cells #[.string vnm, .int .i64 vty, .string vtx, .int .i64 vdt, .slice ad4 vn c4] 46 (0, 0))) := (HB3.out.block _ (by omega)).trans HRV2.out
    have hz3 : w.heap.size + 2 < W3.heap.size := by have := HB3.out.size; omega
    have n0 : w.heap.size < W3.heap.size := by omega
    have n1 : w.heap.size + 1 < W3.heap.size := by omega
    clear hW3 hqb k0 k1 k2 k3 k4 k5 k6 k7 k8 k9 k10 k11 k12 k13 k14 k15 q0 q1 r0 r1 r2 r3 r4 hz2 m0 m1
    cases qb with
    | false =>
      go_wp2_with fail
      go_ret
      exact ⟨rfl, HW3.out⟩
    | true =>
      have hts : vtx.size ≤ 200 := (HQB.out rfl) _ (List.mem_cons_self ..)
      have HT1 : Hid (vtx.size ≤ 1000) := by unfold Hid; omega
      replace HK1 := Lib.hid (HK1.out HFA.out HFB.out HT1.out)
      replace HC1 := Lib.hid (HC1.out HFA.out HFB.out HT1.out)
      have aa := fun w => run_string_add_sum (P := Tryz.prog) (w := w) ⟨#[61]⟩ vtx (by rw [show (⟨#[61]⟩ : ByteArray).size = 1 from rfl]; omega)
      clear HFA HFB HT1 hts HQB
      generalize keyV kind (rulesV kind a b) keys ⟨vnm, vty, vtx, vdt, vli⟩ = kv at *
      generalize clsV kind (rulesV kind a b) vtx.data.toList = cv at *
      obtain ⟨ka, ke⟩ := kv
      obtain ⟨ca, ce⟩ := cv
      simp only at HK1 HC1
      have k0 : W3.cell? ⟨w.heap.size, 0, none⟩ = some x0 := by rw [Lib.cell_of_heap HRL3.out]; rfl
      have k1 : W3.cell? ⟨w.heap.size, 1, none⟩ = some x1 := by rw [Lib.cell_of_heap HRL3.out]; rfl
      have k2 : W3.cell? ⟨w.heap.size, 2, none⟩ = some x2 := by rw [Lib.cell_of_heap HRL3.out]; rfl
      have k3 : W3.cell? ⟨w.heap.size, 3, none⟩ = some x3 := by rw [Lib.cell_of_heap HRL3.out]; rfl
      have k4 : W3.cell? ⟨w.heap.size, 4, none⟩ = some x4 := by rw [Lib.cell_of_heap HRL3.out]; rfl
      have k5 : W3.cell? ⟨w.heap.size, 5, none⟩ = some x5 := by rw [Lib.cell_of_heap HRL3.out]; rfl
      have k6 : W3.cell? ⟨w.heap.size, 6, none⟩ = some x6 := by rw [Lib.cell_of_heap HRL3.out]; rfl
      have k7 : W3.cell? ⟨w.heap.size, 7, none⟩ = some x7 := by rw [Lib.cell_of_heap HRL3.out]; rfl
      have k8 : W3.cell? ⟨w.heap.size, 8, none⟩ = some x8 := by rw [Lib.cell_of_heap HRL3.out]; rfl
      have k9 : W3.cell? ⟨w.heap.size, 9, none⟩ = some x9 := by rw [Lib.cell_of_heap HRL3.out]; rfl
      have k10 : W3.cell? ⟨w.heap.size, 10, none⟩ = some x10 := by rw [Lib.cell_of_heap HRL3.out]; rfl
      have k11 : W3.cell? ⟨w.heap.size, 11, none⟩ = some x11 := by rw [Lib.cell_of_heap HRL3.out]; rfl
      have k12 : W3.cell? ⟨w.heap.size, 12, none⟩ = some x12 := by rw [Lib.cell_of_heap HRL3.out]; rfl
      have k13 : W3.cell? ⟨w.heap.size, 13, none⟩ = some x13 := by rw [Lib.cell_of_heap HRL3.out]; rfl
      have k14 : W3.cell? ⟨w.heap.size, 14, none⟩ = some x14 := by rw [Lib.cell_of_heap HRL3.out]; rfl
      have k15 : W3.cell? ⟨w.heap.size, 15, none⟩ = some x15 := by rw [Lib.cell_of_heap HRL3.out]; rfl
      have q0 : W3.cell? ⟨w.heap.size + 1, 0, none⟩ = some (.int .i64 kind) := by rw [Lib.cell_of_heap HRQ3.out]; rfl
      have q1 : W3.cell? ⟨w.heap.size + 1, 1, none⟩ = some (.slice kad kn kc) := by rw [Lib.cell_of_heap HRQ3.out]; rfl
      have r0 : W3.cell? ⟨w.heap.size + 2, 0, none⟩ = some (.string vnm) := by rw [Lib.cell_of_heap HRV3.out]; rfl
      have r1 : W3.cell? ⟨w.heap.size + 2, 1, none⟩ = some (.int .i64 vty) := by rw [Lib.cell_of_heap HRV3.out]; rfl
      have r2 : W3.cell? ⟨w.heap.size + 2, 2, none⟩ = some (.string vtx) := by rw [Lib.cell_of_heap HRV3.out]; rfl
      have r3 : W3.cell? ⟨w.heap.size + 2, 3, none⟩ = some (.int .i64 vdt) := by rw [Lib.cell_of_heap HRV3.out]; rfl
      have r4 : W3.cell? ⟨w.heap.size + 2, 4, none⟩ = some (.slice ad4 vn c4) := by rw [Lib.cell_of_heap HRV3.out]; rfl
      by_cases h30 : 30 < (kn : Int)
      · go_wp2_with fail
        go_ret
        exact ⟨rfl, HW3.out⟩
      go_wp2_with fail
      by_cases hke : ke = 0
      · subst hke
        by_cases h9 : kind = 9
        · subst h9
          cases hin : keys.contains vtx with
          | true =>
            have hka := (exact_nine HEX.out).1 hin
            subst hka
            have e1 : (ka.toList == ka.toList) = true := by simp
            have HIN2 := Lib.hid (fun W g => HIN.out ka W g)
            rw [Hid, hin] at HIN2
            replace HIN2 := Lib.hid HIN2
            clear hin HEX HIN HC1 aa HEQ
            as_aux_lemma =>
              refine (HK1.out _ HW3.out).mono ?_
              rintro e W4 ⟨rfl, hb4⟩
              have HW4 : Hid (Below w.heap.size w W4) := HW3.out.trans (hb4.mono HW3.out.size)
              have HRL4 : Hid (W4.heap[w.heap.size]? = some (.cells #[x0, x1, x2, x3, x4, x5, x6, x7, x8, x9, x10, x11, x12, x13, x14, x15] 30 (0, 0))) := (hb4.block _ (by omega)).trans HRL3.out
              have HRQ4 : Hid (W4.heap[w.heap.size + 1]? = some (.cells #[.int .i64 9, .slice kad kn kc] 55 (0, 0))) := (hb4.block _ (by omega)).trans HRQ3.out
              have HRV4 : Hid (W4.heap[w.heap.size + 2]? = some (.cells #[.string vnm, .int .i64 vty, .string ka, .int .i64 vdt, .slice ad4 vn c4] 46 (0, 0))) := (hb4.block _ (by omega)).trans HRV3.out
              have hz4 : w.heap.size + 2 < W4.heap.size := by have := hb4.size; omega
              clear hb4 hz3
              clear k0 k1 k2 k3 k4 k5 k6 k7 k8 k9 k10 k11 k12 k13 k14 k15 q0 q1 r0 r1 r2 r3 r4
              have k0 : W4.cell? ⟨w.heap.size, 0, none⟩ = some x0 := by rw [Lib.cell_of_heap HRL4.out]; rfl
              have k1 : W4.cell? ⟨w.heap.size, 1, none⟩ = some x1 := by rw [Lib.cell_of_heap HRL4.out]; rfl
              have k2 : W4.cell? ⟨w.heap.size, 2, none⟩ = some x2 := by rw [Lib.cell_of_heap HRL4.out]; rfl
              have k3 : W4.cell? ⟨w.heap.size, 3, none⟩ = some x3 := by rw [Lib.cell_of_heap HRL4.out]; rfl
              have k4 : W4.cell? ⟨w.heap.size, 4, none⟩ = some x4 := by rw [Lib.cell_of_heap HRL4.out]; rfl
              have k5 : W4.cell? ⟨w.heap.size, 5, none⟩ = some x5 := by rw [Lib.cell_of_heap HRL4.out]; rfl
              have k6 : W4.cell? ⟨w.heap.size, 6, none⟩ = some x6 := by rw [Lib.cell_of_heap HRL4.out]; rfl
              have k7 : W4.cell? ⟨w.heap.size, 7, none⟩ = some x7 := by rw [Lib.cell_of_heap HRL4.out]; rfl
              have k8 : W4.cell? ⟨w.heap.size, 8, none⟩ = some x8 := by rw [Lib.cell_of_heap HRL4.out]; rfl
              have k9 : W4.cell? ⟨w.heap.size, 9, none⟩ = some x9 := by rw [Lib.cell_of_heap HRL4.out]; rfl
              have k10 : W4.cell? ⟨w.heap.size, 10, none⟩ = some x10 := by rw [Lib.cell_of_heap HRL4.out]; rfl
              have k11 : W4.cell? ⟨w.heap.size, 11, none⟩ = some x11 := by rw [Lib.cell_of_heap HRL4.out]; rfl
              have k12 : W4.cell? ⟨w.heap.size, 12, none⟩ = some x12 := by rw [Lib.cell_of_heap HRL4.out]; rfl
              have k13 : W4.cell? ⟨w.heap.size, 13, none⟩ = some x13 := by rw [Lib.cell_of_heap HRL4.out]; rfl
              have k14 : W4.cell? ⟨w.heap.size, 14, none⟩ = some x14 := by rw [Lib.cell_of_heap HRL4.out]; rfl
              have k15 : W4.cell? ⟨w.heap.size, 15, none⟩ = some x15 := by rw [Lib.cell_of_heap HRL4.out]; rfl
              have q0 : W4.cell? ⟨w.heap.size + 1, 0, none⟩ = some (.int .i64 9) := by rw [Lib.cell_of_heap HRQ4.out]; rfl
              have q1 : W4.cell? ⟨w.heap.size + 1, 1, none⟩ = some (.slice kad kn kc) := by rw [Lib.cell_of_heap HRQ4.out]; rfl
              have r0 : W4.cell? ⟨w.heap.size + 2, 0, none⟩ = some (.string vnm) := by rw [Lib.cell_of_heap HRV4.out]; rfl
              have r1 : W4.cell? ⟨w.heap.size + 2, 1, none⟩ = some (.int .i64 vty) := by rw [Lib.cell_of_heap HRV4.out]; rfl
              have r2 : W4.cell? ⟨w.heap.size + 2, 2, none⟩ = some (.string ka) := by rw [Lib.cell_of_heap HRV4.out]; rfl
              have r3 : W4.cell? ⟨w.heap.size + 2, 3, none⟩ = some (.int .i64 vdt) := by rw [Lib.cell_of_heap HRV4.out]; rfl
              have r4 : W4.cell? ⟨w.heap.size + 2, 4, none⟩ = some (.slice ad4 vn c4) := by rw [Lib.cell_of_heap HRV4.out]; rfl
              go_wp2_with fail
              refine (HIN2.out _ HW4.out).mono ?_
              rintro e _ ⟨rfl, rfl⟩
              go_wp2_with fail
              go_ret
              exact ⟨rfl, HW4.out⟩
          | false =>
            have hka := (exact_nine HEX.out).2 hin
            rw [show otherB = (⟨#[111, 116, 104, 101, 114]⟩ : ByteArray) from rfl] at hka
            subst hka
            have HIN2 := Lib.hid (fun W g => HIN.out vtx W g)
            rw [Hid, hin] at HIN2
            replace HIN2 := Lib.hid HIN2
            clear hin HEX HIN HC1 aa HEQ
            as_aux_lemma =>
              refine (HK1.out _ HW3.out).mono ?_
              rintro e W4 ⟨rfl, hb4⟩
              have HW4 : Hid (Below w.heap.size w W4) := HW3.out.trans (hb4.mono HW3.out.size)
              have HRL4 : Hid (W4.heap[w.heap.size]? = some (.cells #[x0, x1, x2, x3, x4, x5, x6, x7, x8, x9, x10, x11, x12, x13, x14, x15] 30 (0, 0))) := (hb4.block _ (by omega)).trans HRL3.out
              have HRQ4 : Hid (W4.heap[w.heap.size + 1]? = some (.cells #[.int .i64 9, .slice kad kn kc] 55 (0, 0))) := (hb4.block _ (by omega)).trans HRQ3.out
              have HRV4 : Hid (W4.heap[w.heap.size + 2]? = some (.cells #[.string vnm, .int .i64 vty, .string vtx, .int .i64 vdt, .slice ad4 vn c4] 46 (0, 0))) := (hb4.block _ (by omega)).trans HRV3.out
              have hz4 : w.heap.size + 2 < W4.heap.size := by have := hb4.size; omega
              clear hb4 hz3
              clear k0 k1 k2 k3 k4 k5 k6 k7 k8 k9 k10 k11 k12 k13 k14 k15 q0 q1 r0 r1 r2 r3 r4
              have k0 : W4.cell? ⟨w.heap.size, 0, none⟩ = some x0 := by rw [Lib.cell_of_heap HRL4.out]; rfl
              have k1 : W4.cell? ⟨w.heap.size, 1, none⟩ = some x1 := by rw [Lib.cell_of_heap HRL4.out]; rfl
              have k2 : W4.cell? ⟨w.heap.size, 2, none⟩ = some x2 := by rw [Lib.cell_of_heap HRL4.out]; rfl
              have k3 : W4.cell? ⟨w.heap.size, 3, none⟩ = some x3 := by rw [Lib.cell_of_heap HRL4.out]; rfl
              have k4 : W4.cell? ⟨w.heap.size, 4, none⟩ = some x4 := by rw [Lib.cell_of_heap HRL4.out]; rfl
              have k5 : W4.cell? ⟨w.heap.size, 5, none⟩ = some x5 := by rw [Lib.cell_of_heap HRL4.out]; rfl
              have k6 : W4.cell? ⟨w.heap.size, 6, none⟩ = some x6 := by rw [Lib.cell_of_heap HRL4.out]; rfl
              have k7 : W4.cell? ⟨w.heap.size, 7, none⟩ = some x7 := by rw [Lib.cell_of_heap HRL4.out]; rfl
              have k8 : W4.cell? ⟨w.heap.size, 8, none⟩ = some x8 := by rw [Lib.cell_of_heap HRL4.out]; rfl
              have k9 : W4.cell? ⟨w.heap.size, 9, none⟩ = some x9 := by rw [Lib.cell_of_heap HRL4.out]; rfl
              have k10 : W4.cell? ⟨w.heap.size, 10, none⟩ = some x10 := by rw [Lib.cell_of_heap HRL4.out]; rfl
              have k11 : W4.cell? ⟨w.heap.size, 11, none⟩ = some x11 := by rw [Lib.cell_of_heap HRL4.out]; rfl
              have k12 : W4.cell? ⟨w.heap.size, 12, none⟩ = some x12 := by rw [Lib.cell_of_heap HRL4.out]; rfl
              have k13 : W4.cell? ⟨w.heap.size, 13, none⟩ = some x13 := by rw [Lib.cell_of_heap HRL4.out]; rfl
              have k14 : W4.cell? ⟨w.heap.size, 14, none⟩ = some x14 := by rw [Lib.cell_of_heap HRL4.out]; rfl
              have k15 : W4.cell? ⟨w.heap.size, 15, none⟩ = some x15 := by rw [Lib.cell_of_heap HRL4.out]; rfl
              have q0 : W4.cell? ⟨w.heap.size + 1, 0, none⟩ = some (.int .i64 9) := by rw [Lib.cell_of_heap HRQ4.out]; rfl
              have q1 : W4.cell? ⟨w.heap.size + 1, 1, none⟩ = some (.slice kad kn kc) := by rw [Lib.cell_of_heap HRQ4.out]; rfl
              have r0 : W4.cell? ⟨w.heap.size + 2, 0, none⟩ = some (.string vnm) := by rw [Lib.cell_of_heap HRV4.out]; rfl
              have r1 : W4.cell? ⟨w.heap.size + 2, 1, none⟩ = some (.int .i64 vty) := by rw [Lib.cell_of_heap HRV4.out]; rfl
              have r2 : W4.cell? ⟨w.heap.size + 2, 2, none⟩ = some (.string vtx) := by rw [Lib.cell_of_heap HRV4.out]; rfl
              have r3 : W4.cell? ⟨w.heap.size + 2, 3, none⟩ = some (.int .i64 vdt) := by rw [Lib.cell_of_heap HRV4.out]; rfl
              have r4 : W4.cell? ⟨w.heap.size + 2, 4, none⟩ = some (.slice ad4 vn c4) := by rw [Lib.cell_of_heap HRV4.out]; rfl
              go_wp2_with fail
              refine (HIN2.out _ HW4.out).mono ?_
              rintro e _ ⟨rfl, rfl⟩
              go_wp2_with fail
              go_ret
              exact ⟨rfl, HW4.out⟩
        · have HXO := Lib.hid (exact_other h9 HEX.out)
          have hce := HXO.out.1
          subst hce
          rw [Hid, ← HEQ.out] at HXO
          replace HXO := Lib.hid HXO
          have e9 : (kind != 9) = true := by simpa using h9
          clear HEX HEQ
          cases hin : keys.contains (⟨#[61]⟩ ++ vtx : ByteArray) with
          | true =>
            have hka := HXO.out.2.1 hin
            subst hka
            have e1 : ((⟨#[61]⟩ ++ vtx : ByteArray).toList == (⟨#[61]⟩ ++ vtx : ByteArray).toList) = true := by simp
            have HIN2 := Lib.hid (fun W g => HIN.out (⟨#[61]⟩ ++ vtx : ByteArray) W g)
            rw [Hid, hin] at HIN2
            replace HIN2 := Lib.hid HIN2
            clear hin
            clear HXO HIN
            as_aux_lemma =>
              refine (HK1.out _ HW3.out).mono ?_
              rintro e W4 ⟨rfl, hb4⟩
              have HW4 : Hid (Below w.heap.size w W4) := HW3.out.trans (hb4.mono HW3.out.size)
              have HRL4 : Hid (W4.heap[w.heap.size]? = some (.cells #[x0, x1, x2, x3, x4, x5, x6, x7, x8, x9, x10, x11, x12, x13, x14, x15] 30 (0, 0))) := (hb4.block _ (by omega)).trans HRL3.out
              have HRQ4 : Hid (W4.heap[w.heap.size + 1]? = some (.cells #[.int .i64 kind, .slice kad kn kc] 55 (0, 0))) := (hb4.block _ (by omega)).trans HRQ3.out
              have HRV4 : Hid (W4.heap[w.heap.size + 2]? = some (.cells #[.string vnm, .int .i64 vty, .string vtx, .int .i64 vdt, .slice ad4 vn c4] 46 (0, 0))) := (hb4.block _ (by omega)).trans HRV3.out
              have hz4 : w.heap.size + 2 < W4.heap.size := by have := hb4.size; omega
              clear hb4 hz3
              clear k0 k1 k2 k3 k4 k5 k6 k7 k8 k9 k10 k11 k12 k13 k14 k15 q0 q1 r0 r1 r2 r3 r4
              have k0 : W4.cell? ⟨w.heap.size, 0, none⟩ = some x0 := by rw [Lib.cell_of_heap HRL4.out]; rfl
              have k1 : W4.cell? ⟨w.heap.size, 1, none⟩ = some x1 := by rw [Lib.cell_of_heap HRL4.out]; rfl
              have k2 : W4.cell? ⟨w.heap.size, 2, none⟩ = some x2 := by rw [Lib.cell_of_heap HRL4.out]; rfl
              have k3 : W4.cell? ⟨w.heap.size, 3, none⟩ = some x3 := by rw [Lib.cell_of_heap HRL4.out]; rfl
              have k4 : W4.cell? ⟨w.heap.size, 4, none⟩ = some x4 := by rw [Lib.cell_of_heap HRL4.out]; rfl
              have k5 : W4.cell? ⟨w.heap.size, 5, none⟩ = some x5 := by rw [Lib.cell_of_heap HRL4.out]; rfl
              have k6 : W4.cell? ⟨w.heap.size, 6, none⟩ = some x6 := by rw [Lib.cell_of_heap HRL4.out]; rfl
              have k7 : W4.cell? ⟨w.heap.size, 7, none⟩ = some x7 := by rw [Lib.cell_of_heap HRL4.out]; rfl
              have k8 : W4.cell? ⟨w.heap.size, 8, none⟩ = some x8 := by rw [Lib.cell_of_heap HRL4.out]; rfl
              have k9 : W4.cell? ⟨w.heap.size, 9, none⟩ = some x9 := by rw [Lib.cell_of_heap HRL4.out]; rfl
              have k10 : W4.cell? ⟨w.heap.size, 10, none⟩ = some x10 := by rw [Lib.cell_of_heap HRL4.out]; rfl
              have k11 : W4.cell? ⟨w.heap.size, 11, none⟩ = some x11 := by rw [Lib.cell_of_heap HRL4.out]; rfl
              have k12 : W4.cell? ⟨w.heap.size, 12, none⟩ = some x12 := by rw [Lib.cell_of_heap HRL4.out]; rfl
              have k13 : W4.cell? ⟨w.heap.size, 13, none⟩ = some x13 := by rw [Lib.cell_of_heap HRL4.out]; rfl
              have k14 : W4.cell? ⟨w.heap.size, 14, none⟩ = some x14 := by rw [Lib.cell_of_heap HRL4.out]; rfl
              have k15 : W4.cell? ⟨w.heap.size, 15, none⟩ = some x15 := by rw [Lib.cell_of_heap HRL4.out]; rfl
              have q0 : W4.cell? ⟨w.heap.size + 1, 0, none⟩ = some (.int .i64 kind) := by rw [Lib.cell_of_heap HRQ4.out]; rfl
              have q1 : W4.cell? ⟨w.heap.size + 1, 1, none⟩ = some (.slice kad kn kc) := by rw [Lib.cell_of_heap HRQ4.out]; rfl
              have r0 : W4.cell? ⟨w.heap.size + 2, 0, none⟩ = some (.string vnm) := by rw [Lib.cell_of_heap HRV4.out]; rfl
              have r1 : W4.cell? ⟨w.heap.size + 2, 1, none⟩ = some (.int .i64 vty) := by rw [Lib.cell_of_heap HRV4.out]; rfl
              have r2 : W4.cell? ⟨w.heap.size + 2, 2, none⟩ = some (.string vtx) := by rw [Lib.cell_of_heap HRV4.out]; rfl
              have r3 : W4.cell? ⟨w.heap.size + 2, 3, none⟩ = some (.int .i64 vdt) := by rw [Lib.cell_of_heap HRV4.out]; rfl
              have r4 : W4.cell? ⟨w.heap.size + 2, 4, none⟩ = some (.slice ad4 vn c4) := by rw [Lib.cell_of_heap HRV4.out]; rfl
              go_wp2_with fail
              refine (HC1.out _ HW4.out).mono ?_
              rintro e W5 ⟨rfl, hb5⟩
              have HW5 : Hid (Below w.heap.size w W5) := HW4.out.trans (hb5.mono HW4.out.size)
              have HRL5 : Hid (W5.heap[w.heap.size]? = some (.cells #[x0, x1, x2, x3, x4, x5, x6, x7, x8, x9, x10, x11, x12, x13, x14, x15] 30 (0, 0))) := (hb5.block _ (by omega)).trans HRL4.out
              have HRQ5 : Hid (W5.heap[w.heap.size + 1]? = some (.cells #[.int .i64 kind, .slice kad kn kc] 55 (0, 0))) := (hb5.block _ (by omega)).trans HRQ4.out
              have HRV5 : Hid (W5.heap[w.heap.size + 2]? = some (.cells #[.string vnm, .int .i64 vty, .string vtx, .int .i64 vdt, .slice ad4 vn c4] 46 (0, 0))) := (hb5.block _ (by omega)).trans HRV4.out
              have hz5 : w.heap.size + 2 < W5.heap.size := by have := hb5.size; omega
              clear hb5 hz4
              clear k0 k1 k2 k3 k4 k5 k6 k7 k8 k9 k10 k11 k12 k13 k14 k15 q0 q1 r0 r1 r2 r3 r4
              have k0 : W5.cell? ⟨w.heap.size, 0, none⟩ = some x0 := by rw [Lib.cell_of_heap HRL5.out]; rfl
              have k1 : W5.cell? ⟨w.heap.size, 1, none⟩ = some x1 := by rw [Lib.cell_of_heap HRL5.out]; rfl
              have k2 : W5.cell? ⟨w.heap.size, 2, none⟩ = some x2 := by rw [Lib.cell_of_heap HRL5.out]; rfl
              have k3 : W5.cell? ⟨w.heap.size, 3, none⟩ = some x3 := by rw [Lib.cell_of_heap HRL5.out]; rfl
              have k4 : W5.cell? ⟨w.heap.size, 4, none⟩ = some x4 := by rw [Lib.cell_of_heap HRL5.out]; rfl
              have k5 : W5.cell? ⟨w.heap.size, 5, none⟩ = some x5 := by rw [Lib.cell_of_heap HRL5.out]; rfl
              have k6 : W5.cell? ⟨w.heap.size, 6, none⟩ = some x6 := by rw [Lib.cell_of_heap HRL5.out]; rfl
              have k7 : W5.cell? ⟨w.heap.size, 7, none⟩ = some x7 := by rw [Lib.cell_of_heap HRL5.out]; rfl
              have k8 : W5.cell? ⟨w.heap.size, 8, none⟩ = some x8 := by rw [Lib.cell_of_heap HRL5.out]; rfl
              have k9 : W5.cell? ⟨w.heap.size, 9, none⟩ = some x9 := by rw [Lib.cell_of_heap HRL5.out]; rfl
              have k10 : W5.cell? ⟨w.heap.size, 10, none⟩ = some x10 := by rw [Lib.cell_of_heap HRL5.out]; rfl
              have k11 : W5.cell? ⟨w.heap.size, 11, none⟩ = some x11 := by rw [Lib.cell_of_heap HRL5.out]; rfl
              have k12 : W5.cell? ⟨w.heap.size, 12, none⟩ = some x12 := by rw [Lib.cell_of_heap HRL5.out]; rfl
              have k13 : W5.cell? ⟨w.heap.size, 13, none⟩ = some x13 := by rw [Lib.cell_of_heap HRL5.out]; rfl
              have k14 : W5.cell? ⟨w.heap.size, 14, none⟩ = some x14 := by rw [Lib.cell_of_heap HRL5.out]; rfl
              have k15 : W5.cell? ⟨w.heap.size, 15, none⟩ = some x15 := by rw [Lib.cell_of_heap HRL5.out]; rfl
              have q0 : W5.cell? ⟨w.heap.size + 1, 0, none⟩ = some (.int .i64 kind) := by rw [Lib.cell_of_heap HRQ5.out]; rfl
              have q1 : W5.cell? ⟨w.heap.size + 1, 1, none⟩ = some (.slice kad kn kc) := by rw [Lib.cell_of_heap HRQ5.out]; rfl
              have r0 : W5.cell? ⟨w.heap.size + 2, 0, none⟩ = some (.string vnm) := by rw [Lib.cell_of_heap HRV5.out]; rfl
              have r1 : W5.cell? ⟨w.heap.size + 2, 1, none⟩ = some (.int .i64 vty) := by rw [Lib.cell_of_heap HRV5.out]; rfl
              have r2 : W5.cell? ⟨w.heap.size + 2, 2, none⟩ = some (.string vtx) := by rw [Lib.cell_of_heap HRV5.out]; rfl
              have r3 : W5.cell? ⟨w.heap.size + 2, 3, none⟩ = some (.int .i64 vdt) := by rw [Lib.cell_of_heap HRV5.out]; rfl
              have r4 : W5.cell? ⟨w.heap.size + 2, 4, none⟩ = some (.slice ad4 vn c4) := by rw [Lib.cell_of_heap HRV5.out]; rfl
              go_wp2_with fail
              refine (HIN2.out _ HW5.out).mono ?_
              rintro e _ ⟨rfl, rfl⟩
              go_wp2_with fail
              go_ret
              exact ⟨rfl, HW5.out⟩
          | false =>
            by_cases hca : ca = .empty
            · subst hca
              have hka := HXO.out.2.2.2 hin (.inl rfl)
              rw [show otherB = (⟨#[111, 116, 104, 101, 114]⟩ : ByteArray) from rfl] at hka
              subst hka
              have HIN2 := Lib.hid (fun W g => HIN.out (⟨#[61]⟩ ++ vtx : ByteArray) W g)
              rw [Hid, hin] at HIN2
              replace HIN2 := Lib.hid HIN2
              clear hin
              clear HXO HIN
              as_aux_lemma =>
                refine (HK1.out _ HW3.out).mono ?_
                rintro e W4 ⟨rfl, hb4⟩
                have HW4 : Hid (Below w.heap.size w W4) := HW3.out.trans (hb4.mono HW3.out.size)
                have HRL4 : Hid (W4.heap[w.heap.size]? = some (.cells #[x0, x1, x2, x3, x4, x5, x6, x7, x8, x9, x10, x11, x12, x13, x14, x15] 30 (0, 0))) := (hb4.block _ (by omega)).trans HRL3.out
                have HRQ4 : Hid (W4.heap[w.heap.size + 1]? = some (.cells #[.int .i64 kind, .slice kad kn kc] 55 (0, 0))) := (hb4.block _ (by omega)).trans HRQ3.out
                have HRV4 : Hid (W4.heap[w.heap.size + 2]? = some (.cells #[.string vnm, .int .i64 vty, .string vtx, .int .i64 vdt, .slice ad4 vn c4] 46 (0, 0))) := (hb4.block _ (by omega)).trans HRV3.out
                have hz4 : w.heap.size + 2 < W4.heap.size := by have := hb4.size; omega
                clear hb4 hz3
                clear k0 k1 k2 k3 k4 k5 k6 k7 k8 k9 k10 k11 k12 k13 k14 k15 q0 q1 r0 r1 r2 r3 r4
                have k0 : W4.cell? ⟨w.heap.size, 0, none⟩ = some x0 := by rw [Lib.cell_of_heap HRL4.out]; rfl
                have k1 : W4.cell? ⟨w.heap.size, 1, none⟩ = some x1 := by rw [Lib.cell_of_heap HRL4.out]; rfl
                have k2 : W4.cell? ⟨w.heap.size, 2, none⟩ = some x2 := by rw [Lib.cell_of_heap HRL4.out]; rfl
                have k3 : W4.cell? ⟨w.heap.size, 3, none⟩ = some x3 := by rw [Lib.cell_of_heap HRL4.out]; rfl
                have k4 : W4.cell? ⟨w.heap.size, 4, none⟩ = some x4 := by rw [Lib.cell_of_heap HRL4.out]; rfl
                have k5 : W4.cell? ⟨w.heap.size, 5, none⟩ = some x5 := by rw [Lib.cell_of_heap HRL4.out]; rfl
                have k6 : W4.cell? ⟨w.heap.size, 6, none⟩ = some x6 := by rw [Lib.cell_of_heap HRL4.out]; rfl
                have k7 : W4.cell? ⟨w.heap.size, 7, none⟩ = some x7 := by rw [Lib.cell_of_heap HRL4.out]; rfl
                have k8 : W4.cell? ⟨w.heap.size, 8, none⟩ = some x8 := by rw [Lib.cell_of_heap HRL4.out]; rfl
                have k9 : W4.cell? ⟨w.heap.size, 9, none⟩ = some x9 := by rw [Lib.cell_of_heap HRL4.out]; rfl
                have k10 : W4.cell? ⟨w.heap.size, 10, none⟩ = some x10 := by rw [Lib.cell_of_heap HRL4.out]; rfl
                have k11 : W4.cell? ⟨w.heap.size, 11, none⟩ = some x11 := by rw [Lib.cell_of_heap HRL4.out]; rfl
                have k12 : W4.cell? ⟨w.heap.size, 12, none⟩ = some x12 := by rw [Lib.cell_of_heap HRL4.out]; rfl
                have k13 : W4.cell? ⟨w.heap.size, 13, none⟩ = some x13 := by rw [Lib.cell_of_heap HRL4.out]; rfl
                have k14 : W4.cell? ⟨w.heap.size, 14, none⟩ = some x14 := by rw [Lib.cell_of_heap HRL4.out]; rfl
                have k15 : W4.cell? ⟨w.heap.size, 15, none⟩ = some x15 := by rw [Lib.cell_of_heap HRL4.out]; rfl
                have q0 : W4.cell? ⟨w.heap.size + 1, 0, none⟩ = some (.int .i64 kind) := by rw [Lib.cell_of_heap HRQ4.out]; rfl
                have q1 : W4.cell? ⟨w.heap.size + 1, 1, none⟩ = some (.slice kad kn kc) := by rw [Lib.cell_of_heap HRQ4.out]; rfl
                have r0 : W4.cell? ⟨w.heap.size + 2, 0, none⟩ = some (.string vnm) := by rw [Lib.cell_of_heap HRV4.out]; rfl
                have r1 : W4.cell? ⟨w.heap.size + 2, 1, none⟩ = some (.int .i64 vty) := by rw [Lib.cell_of_heap HRV4.out]; rfl
                have r2 : W4.cell? ⟨w.heap.size + 2, 2, none⟩ = some (.string vtx) := by rw [Lib.cell_of_heap HRV4.out]; rfl
                have r3 : W4.cell? ⟨w.heap.size + 2, 3, none⟩ = some (.int .i64 vdt) := by rw [Lib.cell_of_heap HRV4.out]; rfl
                have r4 : W4.cell? ⟨w.heap.size + 2, 4, none⟩ = some (.slice ad4 vn c4) := by rw [Lib.cell_of_heap HRV4.out]; rfl
                go_wp2_with fail
                refine (HC1.out _ HW4.out).mono ?_
                rintro e W5 ⟨rfl, hb5⟩
                have HW5 : Hid (Below w.heap.size w W5) := HW4.out.trans (hb5.mono HW4.out.size)
                have HRL5 : Hid (W5.heap[w.heap.size]? = some (.cells #[x0, x1, x2, x3, x4, x5, x6, x7, x8, x9, x10, x11, x12, x13, x14, x15] 30 (0, 0))) := (hb5.block _ (by omega)).trans HRL4.out
                have HRQ5 : Hid (W5.heap[w.heap.size + 1]? = some (.cells #[.int .i64 kind, .slice kad kn kc] 55 (0, 0))) := (hb5.block _ (by omega)).trans HRQ4.out
                have HRV5 : Hid (W5.heap[w.heap.size + 2]? = some (.cells #[.string vnm, .int .i64 vty, .string vtx, .int .i64 vdt, .slice ad4 vn c4] 46 (0, 0))) := (hb5.block _ (by omega)).trans HRV4.out
                have hz5 : w.heap.size + 2 < W5.heap.size := by have := hb5.size; omega
                clear hb5 hz4
                clear k0 k1 k2 k3 k4 k5 k6 k7 k8 k9 k10 k11 k12 k13 k14 k15 q0 q1 r0 r1 r2 r3 r4
                have k0 : W5.cell? ⟨w.heap.size, 0, none⟩ = some x0 := by rw [Lib.cell_of_heap HRL5.out]; rfl
                have k1 : W5.cell? ⟨w.heap.size, 1, none⟩ = some x1 := by rw [Lib.cell_of_heap HRL5.out]; rfl
                have k2 : W5.cell? ⟨w.heap.size, 2, none⟩ = some x2 := by rw [Lib.cell_of_heap HRL5.out]; rfl
                have k3 : W5.cell? ⟨w.heap.size, 3, none⟩ = some x3 := by rw [Lib.cell_of_heap HRL5.out]; rfl
                have k4 : W5.cell? ⟨w.heap.size, 4, none⟩ = some x4 := by rw [Lib.cell_of_heap HRL5.out]; rfl
                have k5 : W5.cell? ⟨w.heap.size, 5, none⟩ = some x5 := by rw [Lib.cell_of_heap HRL5.out]; rfl
                have k6 : W5.cell? ⟨w.heap.size, 6, none⟩ = some x6 := by rw [Lib.cell_of_heap HRL5.out]; rfl
                have k7 : W5.cell? ⟨w.heap.size, 7, none⟩ = some x7 := by rw [Lib.cell_of_heap HRL5.out]; rfl
                have k8 : W5.cell? ⟨w.heap.size, 8, none⟩ = some x8 := by rw [Lib.cell_of_heap HRL5.out]; rfl
                have k9 : W5.cell? ⟨w.heap.size, 9, none⟩ = some x9 := by rw [Lib.cell_of_heap HRL5.out]; rfl
                have k10 : W5.cell? ⟨w.heap.size, 10, none⟩ = some x10 := by rw [Lib.cell_of_heap HRL5.out]; rfl
                have k11 : W5.cell? ⟨w.heap.size, 11, none⟩ = some x11 := by rw [Lib.cell_of_heap HRL5.out]; rfl
                have k12 : W5.cell? ⟨w.heap.size, 12, none⟩ = some x12 := by rw [Lib.cell_of_heap HRL5.out]; rfl
                have k13 : W5.cell? ⟨w.heap.size, 13, none⟩ = some x13 := by rw [Lib.cell_of_heap HRL5.out]; rfl
                have k14 : W5.cell? ⟨w.heap.size, 14, none⟩ = some x14 := by rw [Lib.cell_of_heap HRL5.out]; rfl
                have k15 : W5.cell? ⟨w.heap.size, 15, none⟩ = some x15 := by rw [Lib.cell_of_heap HRL5.out]; rfl
                have q0 : W5.cell? ⟨w.heap.size + 1, 0, none⟩ = some (.int .i64 kind) := by rw [Lib.cell_of_heap HRQ5.out]; rfl
                have q1 : W5.cell? ⟨w.heap.size + 1, 1, none⟩ = some (.slice kad kn kc) := by rw [Lib.cell_of_heap HRQ5.out]; rfl
                have r0 : W5.cell? ⟨w.heap.size + 2, 0, none⟩ = some (.string vnm) := by rw [Lib.cell_of_heap HRV5.out]; rfl
                have r1 : W5.cell? ⟨w.heap.size + 2, 1, none⟩ = some (.int .i64 vty) := by rw [Lib.cell_of_heap HRV5.out]; rfl
                have r2 : W5.cell? ⟨w.heap.size + 2, 2, none⟩ = some (.string vtx) := by rw [Lib.cell_of_heap HRV5.out]; rfl
                have r3 : W5.cell? ⟨w.heap.size + 2, 3, none⟩ = some (.int .i64 vdt) := by rw [Lib.cell_of_heap HRV5.out]; rfl
                have r4 : W5.cell? ⟨w.heap.size + 2, 4, none⟩ = some (.slice ad4 vn c4) := by rw [Lib.cell_of_heap HRV5.out]; rfl
                go_wp2_with fail
                refine (HIN2.out _ HW5.out).mono ?_
                rintro e _ ⟨rfl, rfl⟩
                go_wp2_with fail
                go_ret
                exact ⟨rfl, HW5.out⟩
            · have f1 : (ca.toList != []) = true := by
                rw [bne_iff_ne]; intro e; exact hca (ByteArray.ext (Array.toList_inj.1 (by rw [ByteArray.toList_eq] at e; exact e)))
              have f3 : ca.toList.isEmpty = false := by
                cases hc : ca.toList with
                | nil => rw [hc] at f1; cases f1
                | cons a l => rfl
              have f4 : (ca.toList == []) = false := by
                cases hc : ca.toList with
                | nil => rw [hc] at f1; cases f1
                | cons a l => rfl
              have f5 : ¬ ca.toList = [] := fun e => by rw [e] at f1; cases f1
              have f2 : (ca.toList != (⟨#[]⟩ : ByteArray).toList) = true := by rw [← f1, ByteArray.toList_eq ⟨#[]⟩]
              cases hin2 : keys.contains ca with
              | true =>
                have hka := HXO.out.2.2.1 hin hca hin2
                subst hka
                have e1 : (ka.toList == ka.toList) = true := by simp
                have HIN2 := Lib.hid (fun W g => HIN.out (⟨#[61]⟩ ++ vtx : ByteArray) W g)
                have HIN3 := Lib.hid (fun W g => HIN.out ka W g)
                rw [Hid, hin] at HIN2
                rw [Hid, hin2] at HIN3
                replace HIN2 := Lib.hid HIN2
                replace HIN3 := Lib.hid HIN3
                clear hin hin2 hca
                clear HXO HIN
                as_aux_lemma =>
                  refine (HK1.out _ HW3.out).mono ?_
                  rintro e W4 ⟨rfl, hb4⟩
                  have HW4 : Hid (Below w.heap.size w W4) := HW3.out.trans (hb4.mono HW3.out.size)
                  have HRL4 : Hid (W4.heap[w.heap.size]? = some (.cells #[x0, x1, x2, x3, x4, x5, x6, x7, x8, x9, x10, x11, x12, x13, x14, x15] 30 (0, 0))) := (hb4.block _ (by omega)).trans HRL3.out
                  have HRQ4 : Hid (W4.heap[w.heap.size + 1]? = some (.cells #[.int .i64 kind, .slice kad kn kc] 55 (0, 0))) := (hb4.block _ (by omega)).trans HRQ3.out
                  have HRV4 : Hid (W4.heap[w.heap.size + 2]? = some (.cells #[.string vnm, .int .i64 vty, .string vtx, .int .i64 vdt, .slice ad4 vn c4] 46 (0, 0))) := (hb4.block _ (by omega)).trans HRV3.out
                  have hz4 : w.heap.size + 2 < W4.heap.size := by have := hb4.size; omega
                  clear hb4 hz3
                  clear k0 k1 k2 k3 k4 k5 k6 k7 k8 k9 k10 k11 k12 k13 k14 k15 q0 q1 r0 r1 r2 r3 r4
                  have k0 : W4.cell? ⟨w.heap.size, 0, none⟩ = some x0 := by rw [Lib.cell_of_heap HRL4.out]; rfl
                  have k1 : W4.cell? ⟨w.heap.size, 1, none⟩ = some x1 := by rw [Lib.cell_of_heap HRL4.out]; rfl
                  have k2 : W4.cell? ⟨w.heap.size, 2, none⟩ = some x2 := by rw [Lib.cell_of_heap HRL4.out]; rfl
                  have k3 : W4.cell? ⟨w.heap.size, 3, none⟩ = some x3 := by rw [Lib.cell_of_heap HRL4.out]; rfl
                  have k4 : W4.cell? ⟨w.heap.size, 4, none⟩ = some x4 := by rw [Lib.cell_of_heap HRL4.out]; rfl
                  have k5 : W4.cell? ⟨w.heap.size, 5, none⟩ = some x5 := by rw [Lib.cell_of_heap HRL4.out]; rfl
                  have k6 : W4.cell? ⟨w.heap.size, 6, none⟩ = some x6 := by rw [Lib.cell_of_heap HRL4.out]; rfl
                  have k7 : W4.cell? ⟨w.heap.size, 7, none⟩ = some x7 := by rw [Lib.cell_of_heap HRL4.out]; rfl
                  have k8 : W4.cell? ⟨w.heap.size, 8, none⟩ = some x8 := by rw [Lib.cell_of_heap HRL4.out]; rfl
                  have k9 : W4.cell? ⟨w.heap.size, 9, none⟩ = some x9 := by rw [Lib.cell_of_heap HRL4.out]; rfl
                  have k10 : W4.cell? ⟨w.heap.size, 10, none⟩ = some x10 := by rw [Lib.cell_of_heap HRL4.out]; rfl
                  have k11 : W4.cell? ⟨w.heap.size, 11, none⟩ = some x11 := by rw [Lib.cell_of_heap HRL4.out]; rfl
                  have k12 : W4.cell? ⟨w.heap.size, 12, none⟩ = some x12 := by rw [Lib.cell_of_heap HRL4.out]; rfl
                  have k13 : W4.cell? ⟨w.heap.size, 13, none⟩ = some x13 := by rw [Lib.cell_of_heap HRL4.out]; rfl
                  have k14 : W4.cell? ⟨w.heap.size, 14, none⟩ = some x14 := by rw [Lib.cell_of_heap HRL4.out]; rfl
                  have k15 : W4.cell? ⟨w.heap.size, 15, none⟩ = some x15 := by rw [Lib.cell_of_heap HRL4.out]; rfl
                  have q0 : W4.cell? ⟨w.heap.size + 1, 0, none⟩ = some (.int .i64 kind) := by rw [Lib.cell_of_heap HRQ4.out]; rfl
                  have q1 : W4.cell? ⟨w.heap.size + 1, 1, none⟩ = some (.slice kad kn kc) := by rw [Lib.cell_of_heap HRQ4.out]; rfl
                  have r0 : W4.cell? ⟨w.heap.size + 2, 0, none⟩ = some (.string vnm) := by rw [Lib.cell_of_heap HRV4.out]; rfl
                  have r1 : W4.cell? ⟨w.heap.size + 2, 1, none⟩ = some (.int .i64 vty) := by rw [Lib.cell_of_heap HRV4.out]; rfl
                  have r2 : W4.cell? ⟨w.heap.size + 2, 2, none⟩ = some (.string vtx) := by rw [Lib.cell_of_heap HRV4.out]; rfl
                  have r3 : W4.cell? ⟨w.heap.size + 2, 3, none⟩ = some (.int .i64 vdt) := by rw [Lib.cell_of_heap HRV4.out]; rfl
                  have r4 : W4.cell? ⟨w.heap.size + 2, 4, none⟩ = some (.slice ad4 vn c4) := by rw [Lib.cell_of_heap HRV4.out]; rfl
                  go_wp2_with fail
                  refine (HC1.out _ HW4.out).mono ?_
                  rintro e W5 ⟨rfl, hb5⟩
                  have HW5 : Hid (Below w.heap.size w W5) := HW4.out.trans (hb5.mono HW4.out.size)
                  have HRL5 : Hid (W5.heap[w.heap.size]? = some (.cells #[x0, x1, x2, x3, x4, x5, x6, x7, x8, x9, x10, x11, x12, x13, x14, x15] 30 (0, 0))) := (hb5.block _ (by omega)).trans HRL4.out
                  have HRQ5 : Hid (W5.heap[w.heap.size + 1]? = some (.cells #[.int .i64 kind, .slice kad kn kc] 55 (0, 0))) := (hb5.block _ (by omega)).trans HRQ4.out
                  have HRV5 : Hid (W5.heap[w.heap.size + 2]? = some (.cells #[.string vnm, .int .i64 vty, .string vtx, .int .i64 vdt, .slice ad4 vn c4] 46 (0, 0))) := (hb5.block _ (by omega)).trans HRV4.out
                  have hz5 : w.heap.size + 2 < W5.heap.size := by have := hb5.size; omega
                  clear hb5 hz4
                  clear k0 k1 k2 k3 k4 k5 k6 k7 k8 k9 k10 k11 k12 k13 k14 k15 q0 q1 r0 r1 r2 r3 r4
                  have k0 : W5.cell? ⟨w.heap.size, 0, none⟩ = some x0 := by rw [Lib.cell_of_heap HRL5.out]; rfl
                  have k1 : W5.cell? ⟨w.heap.size, 1, none⟩ = some x1 := by rw [Lib.cell_of_heap HRL5.out]; rfl
                  have k2 : W5.cell? ⟨w.heap.size, 2, none⟩ = some x2 := by rw [Lib.cell_of_heap HRL5.out]; rfl
                  have k3 : W5.cell? ⟨w.heap.size, 3, none⟩ = some x3 := by rw [Lib.cell_of_heap HRL5.out]; rfl
                  have k4 : W5.cell? ⟨w.heap.size, 4, none⟩ = some x4 := by rw [Lib.cell_of_heap HRL5.out]; rfl
                  have k5 : W5.cell? ⟨w.heap.size, 5, none⟩ = some x5 := by rw [Lib.cell_of_heap HRL5.out]; rfl
                  have k6 : W5.cell? ⟨w.heap.size, 6, none⟩ = some x6 := by rw [Lib.cell_of_heap HRL5.out]; rfl
                  have k7 : W5.cell? ⟨w.heap.size, 7, none⟩ = some x7 := by rw [Lib.cell_of_heap HRL5.out]; rfl
                  have k8 : W5.cell? ⟨w.heap.size, 8, none⟩ = some x8 := by rw [Lib.cell_of_heap HRL5.out]; rfl
                  have k9 : W5.cell? ⟨w.heap.size, 9, none⟩ = some x9 := by rw [Lib.cell_of_heap HRL5.out]; rfl
                  have k10 : W5.cell? ⟨w.heap.size, 10, none⟩ = some x10 := by rw [Lib.cell_of_heap HRL5.out]; rfl
                  have k11 : W5.cell? ⟨w.heap.size, 11, none⟩ = some x11 := by rw [Lib.cell_of_heap HRL5.out]; rfl
                  have k12 : W5.cell? ⟨w.heap.size, 12, none⟩ = some x12 := by rw [Lib.cell_of_heap HRL5.out]; rfl
                  have k13 : W5.cell? ⟨w.heap.size, 13, none⟩ = some x13 := by rw [Lib.cell_of_heap HRL5.out]; rfl
                  have k14 : W5.cell? ⟨w.heap.size, 14, none⟩ = some x14 := by rw [Lib.cell_of_heap HRL5.out]; rfl
                  have k15 : W5.cell? ⟨w.heap.size, 15, none⟩ = some x15 := by rw [Lib.cell_of_heap HRL5.out]; rfl
                  have q0 : W5.cell? ⟨w.heap.size + 1, 0, none⟩ = some (.int .i64 kind) := by rw [Lib.cell_of_heap HRQ5.out]; rfl
                  have q1 : W5.cell? ⟨w.heap.size + 1, 1, none⟩ = some (.slice kad kn kc) := by rw [Lib.cell_of_heap HRQ5.out]; rfl
                  have r0 : W5.cell? ⟨w.heap.size + 2, 0, none⟩ = some (.string vnm) := by rw [Lib.cell_of_heap HRV5.out]; rfl
                  have r1 : W5.cell? ⟨w.heap.size + 2, 1, none⟩ = some (.int .i64 vty) := by rw [Lib.cell_of_heap HRV5.out]; rfl
                  have r2 : W5.cell? ⟨w.heap.size + 2, 2, none⟩ = some (.string vtx) := by rw [Lib.cell_of_heap HRV5.out]; rfl
                  have r3 : W5.cell? ⟨w.heap.size + 2, 3, none⟩ = some (.int .i64 vdt) := by rw [Lib.cell_of_heap HRV5.out]; rfl
                  have r4 : W5.cell? ⟨w.heap.size + 2, 4, none⟩ = some (.slice ad4 vn c4) := by rw [Lib.cell_of_heap HRV5.out]; rfl
                  go_wp2_with fail
                  refine (HIN2.out _ HW5.out).mono ?_
                  rintro e _ ⟨rfl, rfl⟩
                  go_wp2_with fail
                  refine (HIN3.out _ HW5.out).mono ?_
                  rintro e _ ⟨rfl, rfl⟩
                  go_wp2_with fail
                  go_ret
                  exact ⟨rfl, HW5.out⟩
              | false =>
                have hka := HXO.out.2.2.2 hin (.inr hin2)
                rw [show otherB = (⟨#[111, 116, 104, 101, 114]⟩ : ByteArray) from rfl] at hka
                subst hka
                have HIN2 := Lib.hid (fun W g => HIN.out (⟨#[61]⟩ ++ vtx : ByteArray) W g)
                have HIN3 := Lib.hid (fun W g => HIN.out ca W g)
                rw [Hid, hin] at HIN2
                rw [Hid, hin2] at HIN3
                replace HIN2 := Lib.hid HIN2
                replace HIN3 := Lib.hid HIN3
                clear hin hin2 hca
                clear HXO HIN
                as_aux_lemma =>
                  refine (HK1.out _ HW3.out).mono ?_
                  rintro e W4 ⟨rfl, hb4⟩
                  have HW4 : Hid (Below w.heap.size w W4) := HW3.out.trans (hb4.mono HW3.out.size)
                  have HRL4 : Hid (W4.heap[w.heap.size]? = some (.cells #[x0, x1, x2, x3, x4, x5, x6, x7, x8, x9, x10, x11, x12, x13, x14, x15] 30 (0, 0))) := (hb4.block _ (by omega)).trans HRL3.out
                  have HRQ4 : Hid (W4.heap[w.heap.size + 1]? = some (.cells #[.int .i64 kind, .slice kad kn kc] 55 (0, 0))) := (hb4.block _ (by omega)).trans HRQ3.out
                  have HRV4 : Hid (W4.heap[w.heap.size + 2]? = some (.cells #[.string vnm, .int .i64 vty, .string vtx, .int .i64 vdt, .slice ad4 vn c4] 46 (0, 0))) := (hb4.block _ (by omega)).trans HRV3.out
                  have hz4 : w.heap.size + 2 < W4.heap.size := by have := hb4.size; omega
                  clear hb4 hz3
                  clear k0 k1 k2 k3 k4 k5 k6 k7 k8 k9 k10 k11 k12 k13 k14 k15 q0 q1 r0 r1 r2 r3 r4
                  have k0 : W4.cell? ⟨w.heap.size, 0, none⟩ = some x0 := by rw [Lib.cell_of_heap HRL4.out]; rfl
                  have k1 : W4.cell? ⟨w.heap.size, 1, none⟩ = some x1 := by rw [Lib.cell_of_heap HRL4.out]; rfl
                  have k2 : W4.cell? ⟨w.heap.size, 2, none⟩ = some x2 := by rw [Lib.cell_of_heap HRL4.out]; rfl
                  have k3 : W4.cell? ⟨w.heap.size, 3, none⟩ = some x3 := by rw [Lib.cell_of_heap HRL4.out]; rfl
                  have k4 : W4.cell? ⟨w.heap.size, 4, none⟩ = some x4 := by rw [Lib.cell_of_heap HRL4.out]; rfl
                  have k5 : W4.cell? ⟨w.heap.size, 5, none⟩ = some x5 := by rw [Lib.cell_of_heap HRL4.out]; rfl
                  have k6 : W4.cell? ⟨w.heap.size, 6, none⟩ = some x6 := by rw [Lib.cell_of_heap HRL4.out]; rfl
                  have k7 : W4.cell? ⟨w.heap.size, 7, none⟩ = some x7 := by rw [Lib.cell_of_heap HRL4.out]; rfl
                  have k8 : W4.cell? ⟨w.heap.size, 8, none⟩ = some x8 := by rw [Lib.cell_of_heap HRL4.out]; rfl
                  have k9 : W4.cell? ⟨w.heap.size, 9, none⟩ = some x9 := by rw [Lib.cell_of_heap HRL4.out]; rfl
                  have k10 : W4.cell? ⟨w.heap.size, 10, none⟩ = some x10 := by rw [Lib.cell_of_heap HRL4.out]; rfl
                  have k11 : W4.cell? ⟨w.heap.size, 11, none⟩ = some x11 := by rw [Lib.cell_of_heap HRL4.out]; rfl
                  have k12 : W4.cell? ⟨w.heap.size, 12, none⟩ = some x12 := by rw [Lib.cell_of_heap HRL4.out]; rfl
                  have k13 : W4.cell? ⟨w.heap.size, 13, none⟩ = some x13 := by rw [Lib.cell_of_heap HRL4.out]; rfl
                  have k14 : W4.cell? ⟨w.heap.size, 14, none⟩ = some x14 := by rw [Lib.cell_of_heap HRL4.out]; rfl
                  have k15 : W4.cell? ⟨w.heap.size, 15, none⟩ = some x15 := by rw [Lib.cell_of_heap HRL4.out]; rfl
                  have q0 : W4.cell? ⟨w.heap.size + 1, 0, none⟩ = some (.int .i64 kind) := by rw [Lib.cell_of_heap HRQ4.out]; rfl
                  have q1 : W4.cell? ⟨w.heap.size + 1, 1, none⟩ = some (.slice kad kn kc) := by rw [Lib.cell_of_heap HRQ4.out]; rfl
                  have r0 : W4.cell? ⟨w.heap.size + 2, 0, none⟩ = some (.string vnm) := by rw [Lib.cell_of_heap HRV4.out]; rfl
                  have r1 : W4.cell? ⟨w.heap.size + 2, 1, none⟩ = some (.int .i64 vty) := by rw [Lib.cell_of_heap HRV4.out]; rfl
                  have r2 : W4.cell? ⟨w.heap.size + 2, 2, none⟩ = some (.string vtx) := by rw [Lib.cell_of_heap HRV4.out]; rfl
                  have r3 : W4.cell? ⟨w.heap.size + 2, 3, none⟩ = some (.int .i64 vdt) := by rw [Lib.cell_of_heap HRV4.out]; rfl
                  have r4 : W4.cell? ⟨w.heap.size + 2, 4, none⟩ = some (.slice ad4 vn c4) := by rw [Lib.cell_of_heap HRV4.out]; rfl
                  go_wp2_with fail
                  refine (HC1.out _ HW4.out).mono ?_
                  rintro e W5 ⟨rfl, hb5⟩
                  have HW5 : Hid (Below w.heap.size w W5) := HW4.out.trans (hb5.mono HW4.out.size)
                  have HRL5 : Hid (W5.heap[w.heap.size]? = some (.cells #[x0, x1, x2, x3, x4, x5, x6, x7, x8, x9, x10, x11, x12, x13, x14, x15] 30 (0, 0))) := (hb5.block _ (by omega)).trans HRL4.out
                  have HRQ5 : Hid (W5.heap[w.heap.size + 1]? = some (.cells #[.int .i64 kind, .slice kad kn kc] 55 (0, 0))) := (hb5.block _ (by omega)).trans HRQ4.out
                  have HRV5 : Hid (W5.heap[w.heap.size + 2]? = some (.cells #[.string vnm, .int .i64 vty, .string vtx, .int .i64 vdt, .slice ad4 vn c4] 46 (0, 0))) := (hb5.block _ (by omega)).trans HRV4.out
                  have hz5 : w.heap.size + 2 < W5.heap.size := by have := hb5.size; omega
                  clear hb5 hz4
                  clear k0 k1 k2 k3 k4 k5 k6 k7 k8 k9 k10 k11 k12 k13 k14 k15 q0 q1 r0 r1 r2 r3 r4
                  have k0 : W5.cell? ⟨w.heap.size, 0, none⟩ = some x0 := by rw [Lib.cell_of_heap HRL5.out]; rfl
                  have k1 : W5.cell? ⟨w.heap.size, 1, none⟩ = some x1 := by rw [Lib.cell_of_heap HRL5.out]; rfl
                  have k2 : W5.cell? ⟨w.heap.size, 2, none⟩ = some x2 := by rw [Lib.cell_of_heap HRL5.out]; rfl
                  have k3 : W5.cell? ⟨w.heap.size, 3, none⟩ = some x3 := by rw [Lib.cell_of_heap HRL5.out]; rfl
                  have k4 : W5.cell? ⟨w.heap.size, 4, none⟩ = some x4 := by rw [Lib.cell_of_heap HRL5.out]; rfl
                  have k5 : W5.cell? ⟨w.heap.size, 5, none⟩ = some x5 := by rw [Lib.cell_of_heap HRL5.out]; rfl
                  have k6 : W5.cell? ⟨w.heap.size, 6, none⟩ = some x6 := by rw [Lib.cell_of_heap HRL5.out]; rfl
                  have k7 : W5.cell? ⟨w.heap.size, 7, none⟩ = some x7 := by rw [Lib.cell_of_heap HRL5.out]; rfl
                  have k8 : W5.cell? ⟨w.heap.size, 8, none⟩ = some x8 := by rw [Lib.cell_of_heap HRL5.out]; rfl
                  have k9 : W5.cell? ⟨w.heap.size, 9, none⟩ = some x9 := by rw [Lib.cell_of_heap HRL5.out]; rfl
                  have k10 : W5.cell? ⟨w.heap.size, 10, none⟩ = some x10 := by rw [Lib.cell_of_heap HRL5.out]; rfl
                  have k11 : W5.cell? ⟨w.heap.size, 11, none⟩ = some x11 := by rw [Lib.cell_of_heap HRL5.out]; rfl
                  have k12 : W5.cell? ⟨w.heap.size, 12, none⟩ = some x12 := by rw [Lib.cell_of_heap HRL5.out]; rfl
                  have k13 : W5.cell? ⟨w.heap.size, 13, none⟩ = some x13 := by rw [Lib.cell_of_heap HRL5.out]; rfl
                  have k14 : W5.cell? ⟨w.heap.size, 14, none⟩ = some x14 := by rw [Lib.cell_of_heap HRL5.out]; rfl
                  have k15 : W5.cell? ⟨w.heap.size, 15, none⟩ = some x15 := by rw [Lib.cell_of_heap HRL5.out]; rfl
                  have q0 : W5.cell? ⟨w.heap.size + 1, 0, none⟩ = some (.int .i64 kind) := by rw [Lib.cell_of_heap HRQ5.out]; rfl
                  have q1 : W5.cell? ⟨w.heap.size + 1, 1, none⟩ = some (.slice kad kn kc) := by rw [Lib.cell_of_heap HRQ5.out]; rfl
                  have r0 : W5.cell? ⟨w.heap.size + 2, 0, none⟩ = some (.string vnm) := by rw [Lib.cell_of_heap HRV5.out]; rfl
                  have r1 : W5.cell? ⟨w.heap.size + 2, 1, none⟩ = some (.int .i64 vty) := by rw [Lib.cell_of_heap HRV5.out]; rfl
                  have r2 : W5.cell? ⟨w.heap.size + 2, 2, none⟩ = some (.string vtx) := by rw [Lib.cell_of_heap HRV5.out]; rfl
                  have r3 : W5.cell? ⟨w.heap.size + 2, 3, none⟩ = some (.int .i64 vdt) := by rw [Lib.cell_of_heap HRV5.out]; rfl
                  have r4 : W5.cell? ⟨w.heap.size + 2, 4, none⟩ = some (.slice ad4 vn c4) := by rw [Lib.cell_of_heap HRV5.out]; rfl
                  go_wp2_with fail
                  refine (HIN2.out _ HW5.out).mono ?_
                  rintro e _ ⟨rfl, rfl⟩
                  go_wp2_with fail
                  refine (HIN3.out _ HW5.out).mono ?_
                  rintro e _ ⟨rfl, rfl⟩
                  go_wp2_with fail
                  go_ret
                  exact ⟨rfl, HW5.out⟩
      · have hka := exact_err hke HEX.out
        rw [show ByteArray.empty = (⟨#[]⟩ : ByteArray) from rfl] at hka
        subst hka
        have e1 : ((ke : Int) != 0) = true := by simpa using hke
        clear HEX HIN HC1 aa HEQ hke
        as_aux_lemma =>
          refine (HK1.out _ HW3.out).mono ?_
          rintro e W4 ⟨rfl, hb4⟩
          have HW4 : Hid (Below w.heap.size w W4) := HW3.out.trans (hb4.mono HW3.out.size)
          have HRL4 : Hid (W4.heap[w.heap.size]? = some (.cells #[x0, x1, x2, x3, x4, x5, x6, x7, x8, x9, x10, x11, x12, x13, x14, x15] 30 (0, 0))) := (hb4.block _ (by omega)).trans HRL3.out
          have HRQ4 : Hid (W4.heap[w.heap.size + 1]? = some (.cells #[.int .i64 kind, .slice kad kn kc] 55 (0, 0))) := (hb4.block _ (by omega)).trans HRQ3.out
          have HRV4 : Hid (W4.heap[w.heap.size + 2]? = some (.cells #[.string vnm, .int .i64 vty, .string vtx, .int .i64 vdt, .slice ad4 vn c4] 46 (0, 0))) := (hb4.block _ (by omega)).trans HRV3.out
          have hz4 : w.heap.size + 2 < W4.heap.size := by have := hb4.size; omega
          clear hb4 hz3
          clear k0 k1 k2 k3 k4 k5 k6 k7 k8 k9 k10 k11 k12 k13 k14 k15 q0 q1 r0 r1 r2 r3 r4
          have k0 : W4.cell? ⟨w.heap.size, 0, none⟩ = some x0 := by rw [Lib.cell_of_heap HRL4.out]; rfl
          have k1 : W4.cell? ⟨w.heap.size, 1, none⟩ = some x1 := by rw [Lib.cell_of_heap HRL4.out]; rfl
          have k2 : W4.cell? ⟨w.heap.size, 2, none⟩ = some x2 := by rw [Lib.cell_of_heap HRL4.out]; rfl
          have k3 : W4.cell? ⟨w.heap.size, 3, none⟩ = some x3 := by rw [Lib.cell_of_heap HRL4.out]; rfl
          have k4 : W4.cell? ⟨w.heap.size, 4, none⟩ = some x4 := by rw [Lib.cell_of_heap HRL4.out]; rfl
          have k5 : W4.cell? ⟨w.heap.size, 5, none⟩ = some x5 := by rw [Lib.cell_of_heap HRL4.out]; rfl
          have k6 : W4.cell? ⟨w.heap.size, 6, none⟩ = some x6 := by rw [Lib.cell_of_heap HRL4.out]; rfl
          have k7 : W4.cell? ⟨w.heap.size, 7, none⟩ = some x7 := by rw [Lib.cell_of_heap HRL4.out]; rfl
          have k8 : W4.cell? ⟨w.heap.size, 8, none⟩ = some x8 := by rw [Lib.cell_of_heap HRL4.out]; rfl
          have k9 : W4.cell? ⟨w.heap.size, 9, none⟩ = some x9 := by rw [Lib.cell_of_heap HRL4.out]; rfl
          have k10 : W4.cell? ⟨w.heap.size, 10, none⟩ = some x10 := by rw [Lib.cell_of_heap HRL4.out]; rfl
          have k11 : W4.cell? ⟨w.heap.size, 11, none⟩ = some x11 := by rw [Lib.cell_of_heap HRL4.out]; rfl
          have k12 : W4.cell? ⟨w.heap.size, 12, none⟩ = some x12 := by rw [Lib.cell_of_heap HRL4.out]; rfl
          have k13 : W4.cell? ⟨w.heap.size, 13, none⟩ = some x13 := by rw [Lib.cell_of_heap HRL4.out]; rfl
          have k14 : W4.cell? ⟨w.heap.size, 14, none⟩ = some x14 := by rw [Lib.cell_of_heap HRL4.out]; rfl
          have k15 : W4.cell? ⟨w.heap.size, 15, none⟩ = some x15 := by rw [Lib.cell_of_heap HRL4.out]; rfl
          have q0 : W4.cell? ⟨w.heap.size + 1, 0, none⟩ = some (.int .i64 kind) := by rw [Lib.cell_of_heap HRQ4.out]; rfl
          have q1 : W4.cell? ⟨w.heap.size + 1, 1, none⟩ = some (.slice kad kn kc) := by rw [Lib.cell_of_heap HRQ4.out]; rfl
          have r0 : W4.cell? ⟨w.heap.size + 2, 0, none⟩ = some (.string vnm) := by rw [Lib.cell_of_heap HRV4.out]; rfl
          have r1 : W4.cell? ⟨w.heap.size + 2, 1, none⟩ = some (.int .i64 vty) := by rw [Lib.cell_of_heap HRV4.out]; rfl
          have r2 : W4.cell? ⟨w.heap.size + 2, 2, none⟩ = some (.string vtx) := by rw [Lib.cell_of_heap HRV4.out]; rfl
          have r3 : W4.cell? ⟨w.heap.size + 2, 3, none⟩ = some (.int .i64 vdt) := by rw [Lib.cell_of_heap HRV4.out]; rfl
          have r4 : W4.cell? ⟨w.heap.size + 2, 4, none⟩ = some (.slice ad4 vn c4) := by rw [Lib.cell_of_heap HRV4.out]; rfl
          go_wp2_with fail
          go_ret
          exact ⟨rfl, HW4.out⟩
end Go.Proofs.YtadhblppeaamlaaGreatDoor
