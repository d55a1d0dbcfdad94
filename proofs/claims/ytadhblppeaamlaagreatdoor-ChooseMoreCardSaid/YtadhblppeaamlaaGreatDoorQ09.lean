/- Walks over a relation: whether it is valid, in the program. -/
import Derived.Test.YtadhblppeaamlaaGreatDoorQ08
namespace Go.Proofs.YtadhblppeaamlaaGreatDoor
open Go.RowKit
attribute [local go_sem] Ext.cell Ext.frozen
attribute [local go_sem ↓] Go.wp_at_zero Go.wp_at_succ
theorem properV_len {r : Rel} (h : ¬ (1 ≤ r.sp.length ∧ r.sp.length ≤ 4)) : properV r = false := by
  rw [← Bool.not_eq_true]; unfold properV; simp only [Bool.and_eq_true, decide_eq_true_eq]; omega
theorem properV_op {r : Rel} (h : ¬ (1 ≤ r.op ∧ r.op ≤ 6)) : properV r = false := by
  rw [← Bool.not_eq_true]; unfold properV; simp only [Bool.and_eq_true, decide_eq_true_eq]; omega
theorem properV_md {r : Rel} (h : r.md ≠ 0) (h2 : permV r.op r.md = false) : properV r = false := by
  rw [← Bool.not_eq_true]; unfold properV; simp [h, h2]
theorem properV_no {r : Rel} {k : Nat} (hk : k < r.sp.length) (h : spanOk r.op (r.sp.getD k (0, 0)) = false) : properV r = false := by
  unfold properV; rw [all_not (0, 0) hk h, Bool.and_false]
theorem properV_yes {r : Rel} (h1 : 1 ≤ r.op ∧ r.op ≤ 6) (h2 : r.md = 0 ∨ permV r.op r.md = true) (h3 : 1 ≤ r.sp.length ∧ r.sp.length ≤ 4) (h : ∀ i, i < r.sp.length → spanOk r.op (r.sp.getD i (0, 0)) = true) : properV r = true := by
  unfold properV; rw [all_getD (0, 0) h]; simp [h1, h2, h3]
theorem spanOk_no1 {op a b : Int} (h : a < 0) : spanOk op (a, b) = false := by
  rw [← Bool.not_eq_true]; unfold spanOk; simp only [Bool.and_eq_true, decide_eq_true_eq]; omega
theorem spanOk_no2 {op a b : Int} (h : b < a) : spanOk op (a, b) = false := by
  rw [← Bool.not_eq_true]; unfold spanOk; simp only [Bool.and_eq_true, decide_eq_true_eq]; omega
theorem spanOk_no3 {op a b : Int} (h : greatV op < b) : spanOk op (a, b) = false := by
  rw [← Bool.not_eq_true]; unfold spanOk; simp only [Bool.and_eq_true, decide_eq_true_eq]; omega
theorem spanOk_yes {op a b : Int} (h1 : ¬ a < 0) (h2 : ¬ b < a) (h3 : ¬ greatV op < b) : spanOk op (a, b) = true := by
  unfold spanOk; simp only [Bool.and_eq_true, decide_eq_true_eq]; omega
set_option maxRecDepth 20000 in
set_option maxHeartbeats 8000000 in
theorem proper_any (x : Nat → Value) (r : Rel) (w : World) (h : RelC w x r) : Calls Tryz.prog 72 #[.agg #[x 0, x 1, x 2, x 3]] w fun e w' => e = .returned (.bool (properV r)) ∧ Below w.heap.size w w' := by
  obtain ⟨x0, x1, x2, ad, c, f, b, off, x3, hr, _, _, hlen, hf⟩ := h
  rw [x0, x1, x2, x3]
  clear x0 x1 x2 x3
  obtain ⟨op, md, neg, sp⟩ := r
  simp only at hr hf hlen ⊢
  obtain ⟨n, hn⟩ : ∃ n, sp.length = n := ⟨_, rfl⟩
  rw [hn] at hr hlen ⊢
  have HN := Lib.hid hn
  have HR := Lib.hid hr
  have HF := Lib.hid hf
  have HP := Lib.hid (fun w1 => perm_any op md w1)
  have HG : Hid (∀ (w1 : World) (m1 : Nat), Calls Tryz.prog 85 #[.int .i64 op] (w1.drewN m1) fun e w2 => e = .returned (.int .i64 (greatV op)) ∧ ∃ m, w2 = w1.drewN m) := fun w1 m1 => Calls.quiet_of_same ((great_any op _).mono fun _ _ h => ⟨h.1, h.2.symm⟩)
  clear hr hf hn
  by_cases h1 : op < 1
  · have HO : Hid (properV ⟨op, md, neg, sp⟩ = false) := properV_op (by simp only; omega)
    generalize properV ⟨op, md, neg, sp⟩ = q at *
    go_enter Tryz.func72, Tryz.ntmps72
    go_wp2_with fail
    all_goals
      go_wp2_with fail
      go_ret
      exact ⟨by rw [HO.out]; rfl, (Below.refl _ _).alloc (Nat.le_refl _) _⟩
  by_cases h2 : 6 < op
  · have HO : Hid (properV ⟨op, md, neg, sp⟩ = false) := properV_op (by simp only; omega)
    generalize properV ⟨op, md, neg, sp⟩ = q at *
    go_enter Tryz.func72, Tryz.ntmps72
    go_wp2_with fail
    all_goals
      go_wp2_with fail
      go_ret
      exact ⟨by rw [HO.out]; rfl, (Below.refl _ _).alloc (Nat.le_refl _) _⟩
  have HOP : Hid (1 ≤ op ∧ op ≤ 6) := ⟨by omega, by omega⟩
  by_cases h3 : md = 0
  · subst h3
    by_cases h4 : n < 1
    · have HO : Hid (properV ⟨op, 0, neg, sp⟩ = false) := properV_len (by simp only; rw [HN.out]; omega)
      generalize properV ⟨op, 0, neg, sp⟩ = q at *
      have h5 : (n : Int) < 1 := by omega
      go_enter Tryz.func72, Tryz.ntmps72
      go_wp2_with fail
      all_goals
        go_wp2_with fail
        go_ret
        exact ⟨by rw [HO.out]; rfl, (Below.refl _ _).alloc (Nat.le_refl _) _⟩
    by_cases h6 : 4 < n
    · have HO : Hid (properV ⟨op, 0, neg, sp⟩ = false) := properV_len (by simp only; rw [HN.out]; omega)
      generalize properV ⟨op, 0, neg, sp⟩ = q at *
      have h5 : ¬ (n : Int) < 1 := by omega
      have h7 : 4 < (n : Int) := by omega
      go_enter Tryz.func72, Tryz.ntmps72
      go_wp2_with fail
      all_goals
        go_wp2_with fail
        go_ret
        exact ⟨by rw [HO.out]; rfl, (Below.refl _ _).alloc (Nat.le_refl _) _⟩
    have h5 : ¬ (n : Int) < 1 := by omega
    have h7 : ¬ 4 < (n : Int) := by omega
    obtain ⟨q, hq⟩ : ∃ q, properV ⟨op, 0, neg, sp⟩ = q := ⟨_, rfl⟩
    rw [hq]
    have HQE := Lib.hid hq
    clear hq
    go_enter Tryz.func72, Tryz.ntmps72
    go_wp2_with fail
    all_goals
      refine wp_at_worldT ?_
      intro wb hwb
      have hb0 : wb.cell? ⟨w.heap.size, 0, none⟩ = some (.int .i64 op) := by rw [hwb]; simp [go_sem]
      have hb3 : wb.cell? ⟨w.heap.size, 3, none⟩ = some (.slice ad n c) := by rw [hwb]; simp [go_sem]
      have HBW : Hid (Below w.heap.size w wb) := by rw [hwb]; exact (Below.refl _ _).alloc (Nat.le_refl _) _
      have hwz : w.heap.size < wb.heap.size := World.block_lt_of_cell? _ _ hb0
      clear hwb
      have B0 := Lib.hid hb0
      have B3 := Lib.hid hb3
      have HRB := Lib.hid (HR.out.below HBW.out)
      go_wp2_with fail
      go_loopw [41] (fun v wr => ∃ k : Nat, v = .int .i64 (k : Int) ∧ k ≤ n ∧ (∀ i, i < k → spanOk op (sp.getD i (0, 0)) = true) ∧ Below wb.heap.size wb wr) (fun v _ => n - (intOf v).toNat)
      case atStart => exact ⟨0, rfl, Nat.zero_le _, fun i hi => absurd hi (Nat.not_lt_zero _), Below.refl _ _⟩
      case round =>
        obtain ⟨k, rfl, hkn, hal, hbl⟩ := hrel
        have HAL := Lib.hid hal
        have HBL := Lib.hid hbl
        have hzr := hbl.size
        have hwr : w.heap.size < wr.heap.size := by omega
        have HWR := Lib.hid (HBW.out.trans (hbl.mono HBW.out.size))
        have r0 : wr.cell? ⟨w.heap.size, 0, none⟩ = some (.int .i64 op) := (hbl.cell (p := ⟨w.heap.size, 0, none⟩) hwz).trans B0.out

        clear hal hbl
        by_cases hlt : k < n
        · have hrr := HRB.out.below HBL.out
          have hix := fun W => hrr.ix 91 90 Tryz.underlying91 (by kernel_rfl) (by omega) hlt c W
          have c0 : wr.cell? ⟨b, off + k * 2, none⟩ = some (f k 0) := hrr.cell k 0 hlt (by omega)
          have c1 : wr.cell? ⟨b, off + k * 2 + 1, none⟩ = some (f k 1) := hrr.cell k 1 hlt (by omega)
          obtain ⟨f0, f1⟩ := RowsOf.get HF.out (i := k) (by rw [HN.out]; exact hlt) (0, 0)
          rw [f0] at c0
          rw [f1] at c1
          have HNO : Hid (spanOk op (sp.getD k (0, 0)) = false → q = false) := fun h => HQE.out.symm.trans (properV_no (by simp only; rw [HN.out]; exact hlt) h)
          have HYES : Hid (spanOk op (sp.getD k (0, 0)) = true → ∀ i, i < k + 1 → spanOk op (sp.getD i (0, 0)) = true) := fun h i hi => by
            by_cases e : i = k
            · subst e; exact h
            · exact HAL.out i (by omega)
          clear hrr f0 f1
          generalize sp.getD k (0, 0) = s at *
          obtain ⟨a, z⟩ := s
          simp only at c0 c1
          by_cases q1 : a < 0
          · have HQ := Lib.hid (HNO.out (spanOk_no1 (by assumption)))
            clear HNO HYES
            generalize greatV op = g at *
            have d1 := decide_eq_true q1
            go_wp2_with fail
            go_quiet ((go_at_call 85; exact HG.out _ _))
            all_goals
              go_wp2_with fail
              go_ret
              exact ⟨by rw [HQ.out]; rfl, by show Bel w _; repeat (first | exact Bel.refl _ | exact HWR.out | refine Bel.drew ?_ | refine Bel.drewN ?_ _ | refine Bel.alloc ?_ _ | refine Bel.ext ?_ _)⟩
          by_cases q2 : z < a
          · have HQ := Lib.hid (HNO.out (spanOk_no2 (by assumption)))
            clear HNO HYES
            generalize greatV op = g at *
            have d1 := decide_eq_false q1
            have d2 := decide_eq_true q2
            go_wp2_with fail
            go_quiet ((go_at_call 85; exact HG.out _ _))
            all_goals
              go_wp2_with fail
              go_ret
              exact ⟨by rw [HQ.out]; rfl, by show Bel w _; repeat (first | exact Bel.refl _ | exact HWR.out | refine Bel.drew ?_ | refine Bel.drewN ?_ _ | refine Bel.alloc ?_ _ | refine Bel.ext ?_ _)⟩
          by_cases q3 : greatV op < z
          · have HQ := Lib.hid (HNO.out (spanOk_no3 (by assumption)))
            clear HNO HYES
            generalize greatV op = g at *
            have d1 := decide_eq_false q1
            have d2 := decide_eq_false q2
            have d3 := decide_eq_true q3
            go_wp2_with fail
            go_quiet ((go_at_call 85; exact HG.out _ _))
            all_goals
              go_wp2_with fail
              go_ret
              exact ⟨by rw [HQ.out]; rfl, by show Bel w _; repeat (first | exact Bel.refl _ | exact HWR.out | refine Bel.drew ?_ | refine Bel.drewN ?_ _ | refine Bel.alloc ?_ _ | refine Bel.ext ?_ _)⟩
          have HQ := Lib.hid (HYES.out (spanOk_yes q1 q2 q3))
          clear HNO HYES
          generalize greatV op = g at *
          have d1 := decide_eq_false q1
          have d2 := decide_eq_false q2
          have d3 := decide_eq_false q3
          go_wp2_with fail
          go_quiet ((go_at_call 85; exact HG.out _ _))
          all_goals
            go_wp2_with fail
            go_roundw
            case rel => exact ⟨k + 1, by go_num, by omega, HQ.out, HBL.out.trans (Below.mono (w := wr) (by show Bel wr _; repeat (first | exact Bel.refl _ | refine Bel.drew ?_ | refine Bel.drewN ?_ _ | refine Bel.alloc ?_ _ | refine Bel.ext ?_ _)) hzr)⟩
            case measure => simp [intOf]; omega
        · obtain rfl : k = n := by omega
          have HO : Hid (q = true) := HQE.out.symm.trans (properV_yes HOP.out (.inl rfl) (by simp only; rw [HN.out]; omega) (by simp only; rw [HN.out]; exact HAL.out))
          go_wp2_with fail
          go_ret
          exact ⟨by rw [HO.out]; rfl, HWR.out⟩
  · have h30 : (md != 0) = true := by simpa using h3
    have HMD := Lib.hid h3
    clear h3
    cases hp : permV op md with
    | false =>
      have HO : Hid (properV ⟨op, md, neg, sp⟩ = false) := properV_md HMD.out hp
      generalize properV ⟨op, md, neg, sp⟩ = q at *
      rw [hp] at HP
      clear hp
      go_enter Tryz.func72, Tryz.ntmps72
      go_wp2_with (go_at_call 84; refine (HP.out _).mono ?_; rintro e w2 ⟨rfl, hb2⟩; have k0 : w2.cell? ⟨w.heap.size, 0, none⟩ = some (.int .i64 op) := (by rw [hb2.cell (p := ⟨w.heap.size, 0, none⟩) (by simp)]; simp [go_sem]); have k3 : w2.cell? ⟨w.heap.size, 3, none⟩ = some (.slice ad n c) := (by rw [hb2.cell (p := ⟨w.heap.size, 3, none⟩) (by simp)]; simp [go_sem]); have HB2 : Hid (Below w.heap.size w w2) := ((Below.refl _ _).alloc (Nat.le_refl _) _).trans (hb2.mono (by simp)); clear hb2)
      all_goals
        go_wp2_with fail
        go_ret
        exact ⟨by rw [HO.out]; rfl, HB2.out⟩
    | true =>
      have HPT := Lib.hid hp
      rw [hp] at HP
      clear hp
      by_cases h4 : n < 1
      · have HO : Hid (properV ⟨op, md, neg, sp⟩ = false) := properV_len (by simp only; rw [HN.out]; omega)
        generalize properV ⟨op, md, neg, sp⟩ = q at *
        have h5 : (n : Int) < 1 := by omega
        go_enter Tryz.func72, Tryz.ntmps72
        go_wp2_with (go_at_call 84; refine (HP.out _).mono ?_; rintro e w2 ⟨rfl, hb2⟩; have k0 : w2.cell? ⟨w.heap.size, 0, none⟩ = some (.int .i64 op) := (by rw [hb2.cell (p := ⟨w.heap.size, 0, none⟩) (by simp)]; simp [go_sem]); have k3 : w2.cell? ⟨w.heap.size, 3, none⟩ = some (.slice ad n c) := (by rw [hb2.cell (p := ⟨w.heap.size, 3, none⟩) (by simp)]; simp [go_sem]); have HB2 : Hid (Below w.heap.size w w2) := ((Below.refl _ _).alloc (Nat.le_refl _) _).trans (hb2.mono (by simp)); clear hb2)
        all_goals
          go_wp2_with fail
          go_ret
          exact ⟨by rw [HO.out]; rfl, HB2.out⟩
      by_cases h6 : 4 < n
      · have HO : Hid (properV ⟨op, md, neg, sp⟩ = false) := properV_len (by simp only; rw [HN.out]; omega)
        generalize properV ⟨op, md, neg, sp⟩ = q at *
        have h5 : ¬ (n : Int) < 1 := by omega
        have h7 : 4 < (n : Int) := by omega
        go_enter Tryz.func72, Tryz.ntmps72
        go_wp2_with (go_at_call 84; refine (HP.out _).mono ?_; rintro e w2 ⟨rfl, hb2⟩; have k0 : w2.cell? ⟨w.heap.size, 0, none⟩ = some (.int .i64 op) := (by rw [hb2.cell (p := ⟨w.heap.size, 0, none⟩) (by simp)]; simp [go_sem]); have k3 : w2.cell? ⟨w.heap.size, 3, none⟩ = some (.slice ad n c) := (by rw [hb2.cell (p := ⟨w.heap.size, 3, none⟩) (by simp)]; simp [go_sem]); have HB2 : Hid (Below w.heap.size w w2) := ((Below.refl _ _).alloc (Nat.le_refl _) _).trans (hb2.mono (by simp)); clear hb2)
        all_goals
          go_wp2_with fail
          go_ret
          exact ⟨by rw [HO.out]; rfl, HB2.out⟩
      have h5 : ¬ (n : Int) < 1 := by omega
      have h7 : ¬ 4 < (n : Int) := by omega
      obtain ⟨q, hq⟩ : ∃ q, properV ⟨op, md, neg, sp⟩ = q := ⟨_, rfl⟩
      rw [hq]
      have HQE := Lib.hid hq
      clear hq
      go_enter Tryz.func72, Tryz.ntmps72
      go_wp2_with (go_at_call 84; refine (HP.out _).mono ?_; rintro e w2 ⟨rfl, hb2⟩; have k0 : w2.cell? ⟨w.heap.size, 0, none⟩ = some (.int .i64 op) := (by rw [hb2.cell (p := ⟨w.heap.size, 0, none⟩) (by simp)]; simp [go_sem]); have k3 : w2.cell? ⟨w.heap.size, 3, none⟩ = some (.slice ad n c) := (by rw [hb2.cell (p := ⟨w.heap.size, 3, none⟩) (by simp)]; simp [go_sem]); have HB2 : Hid (Below w.heap.size w w2) := ((Below.refl _ _).alloc (Nat.le_refl _) _).trans (hb2.mono (by simp)); clear hb2)
      all_goals
        refine wp_at_worldT ?_
        intro wb hwb
        have hb0 : wb.cell? ⟨w.heap.size, 0, none⟩ = some (.int .i64 op) := by rw [hwb]; exact k0
        have hb3 : wb.cell? ⟨w.heap.size, 3, none⟩ = some (.slice ad n c) := by rw [hwb]; exact k3
        have HBW : Hid (Below w.heap.size w wb) := by rw [hwb]; exact HB2.out
        have hwz : w.heap.size < wb.heap.size := World.block_lt_of_cell? _ _ hb0
        clear hwb
        have B0 := Lib.hid hb0
        have B3 := Lib.hid hb3
        have HRB := Lib.hid (HR.out.below HBW.out)
        go_wp2_with fail
        go_loopw [41] (fun v wr => ∃ k : Nat, v = .int .i64 (k : Int) ∧ k ≤ n ∧ (∀ i, i < k → spanOk op (sp.getD i (0, 0)) = true) ∧ Below wb.heap.size wb wr) (fun v _ => n - (intOf v).toNat)
        case atStart => exact ⟨0, rfl, Nat.zero_le _, fun i hi => absurd hi (Nat.not_lt_zero _), Below.refl _ _⟩
        case round =>
          obtain ⟨k, rfl, hkn, hal, hbl⟩ := hrel
          have HAL := Lib.hid hal
          have HBL := Lib.hid hbl
          have hzr := hbl.size
          have hwr : w.heap.size < wr.heap.size := by omega
          have HWR := Lib.hid (HBW.out.trans (hbl.mono HBW.out.size))
          have r0 : wr.cell? ⟨w.heap.size, 0, none⟩ = some (.int .i64 op) := (hbl.cell (p := ⟨w.heap.size, 0, none⟩) hwz).trans B0.out

          clear hal hbl
          by_cases hlt : k < n
          · have hrr := HRB.out.below HBL.out
            have hix := fun W => hrr.ix 91 90 Tryz.underlying91 (by kernel_rfl) (by omega) hlt c W
            have c0 : wr.cell? ⟨b, off + k * 2, none⟩ = some (f k 0) := hrr.cell k 0 hlt (by omega)
            have c1 : wr.cell? ⟨b, off + k * 2 + 1, none⟩ = some (f k 1) := hrr.cell k 1 hlt (by omega)
            obtain ⟨f0, f1⟩ := RowsOf.get HF.out (i := k) (by rw [HN.out]; exact hlt) (0, 0)
            rw [f0] at c0
            rw [f1] at c1
            have HNO : Hid (spanOk op (sp.getD k (0, 0)) = false → q = false) := fun h => HQE.out.symm.trans (properV_no (by simp only; rw [HN.out]; exact hlt) h)
            have HYES : Hid (spanOk op (sp.getD k (0, 0)) = true → ∀ i, i < k + 1 → spanOk op (sp.getD i (0, 0)) = true) := fun h i hi => by
              by_cases e : i = k
              · subst e; exact h
              · exact HAL.out i (by omega)
            clear hrr f0 f1
            generalize sp.getD k (0, 0) = s at *
            obtain ⟨a, z⟩ := s
            simp only at c0 c1
            by_cases q1 : a < 0
            · have HQ := Lib.hid (HNO.out (spanOk_no1 (by assumption)))
              clear HNO HYES
              generalize greatV op = g at *
              have d1 := decide_eq_true q1
              go_wp2_with fail
              go_quiet ((go_at_call 85; exact HG.out _ _))
              all_goals
                go_wp2_with fail
                go_ret
                exact ⟨by rw [HQ.out]; rfl, by show Bel w _; repeat (first | exact Bel.refl _ | exact HWR.out | refine Bel.drew ?_ | refine Bel.drewN ?_ _ | refine Bel.alloc ?_ _ | refine Bel.ext ?_ _)⟩
            by_cases q2 : z < a
            · have HQ := Lib.hid (HNO.out (spanOk_no2 (by assumption)))
              clear HNO HYES
              generalize greatV op = g at *
              have d1 := decide_eq_false q1
              have d2 := decide_eq_true q2
              go_wp2_with fail
              go_quiet ((go_at_call 85; exact HG.out _ _))
              all_goals
                go_wp2_with fail
                go_ret
                exact ⟨by rw [HQ.out]; rfl, by show Bel w _; repeat (first | exact Bel.refl _ | exact HWR.out | refine Bel.drew ?_ | refine Bel.drewN ?_ _ | refine Bel.alloc ?_ _ | refine Bel.ext ?_ _)⟩
            by_cases q3 : greatV op < z
            · have HQ := Lib.hid (HNO.out (spanOk_no3 (by assumption)))
              clear HNO HYES
              generalize greatV op = g at *
              have d1 := decide_eq_false q1
              have d2 := decide_eq_false q2
              have d3 := decide_eq_true q3
              go_wp2_with fail
              go_quiet ((go_at_call 85; exact HG.out _ _))
              all_goals
                go_wp2_with fail
                go_ret
                exact ⟨by rw [HQ.out]; rfl, by show Bel w _; repeat (first | exact Bel.refl _ | exact HWR.out | refine Bel.drew ?_ | refine Bel.drewN ?_ _ | refine Bel.alloc ?_ _ | refine Bel.ext ?_ _)⟩
            have HQ := Lib.hid (HYES.out (spanOk_yes q1 q2 q3))
            clear HNO HYES
            generalize greatV op = g at *
            have d1 := decide_eq_false q1
            have d2 := decide_eq_false q2
            have d3 := decide_eq_false q3
            go_wp2_with fail
            go_quiet ((go_at_call 85; exact HG.out _ _))
            all_goals
              go_wp2_with fail
              go_roundw
              case rel => exact ⟨k + 1, by go_num, by omega, HQ.out, HBL.out.trans (Below.mono (w := wr) (by show Bel wr _; repeat (first | exact Bel.refl _ | refine Bel.drew ?_ | refine Bel.drewN ?_ _ | refine Bel.alloc ?_ _ | refine Bel.ext ?_ _)) hzr)⟩
              case measure => simp [intOf]; omega
          · obtain rfl : k = n := by omega
            have HO : Hid (q = true) := HQE.out.symm.trans (properV_yes HOP.out (.inr HPT.out) (by simp only; rw [HN.out]; omega) (by simp only; rw [HN.out]; exact HAL.out))
            go_wp2_with fail
            go_ret
            exact ⟨by rw [HO.out]; rfl, HWR.out⟩
end Go.Proofs.YtadhblppeaamlaaGreatDoor
/- Walks: whether a list of the reference's has an element; the lists of moduli and of classes; whether a string is a class. -/
namespace Go.Proofs.YtadhblppeaamlaaGreatDoor
open Go.RowKit
attribute [local go_sem] Ext.cell Ext.frozen
attribute [local go_sem ↓] Go.wp_at_zero Go.wp_at_succ

set_option maxRecDepth 20000 in
theorem rhas_int (ad : Option Addr) (n c : Nat) (l : List Int) (x : Int) (w : World) (hr : Sl w ad n (ints l)) :
    Calls Tryz.prog 86 #[.slice ad n c, .int .i64 x] w fun e w' => e = .returned (.bool (l.contains x)) ∧ w = w' := by
  rw [← any_contains l x 0]
  obtain ⟨b, off, hr⟩ := hr
  have hn : l.length = n := by have := hr.len; rwa [ints_length] at this
  have HN := Lib.hid hn
  have HR := Lib.hid hr
  have hm := hr.max
  clear hr hn
  obtain ⟨q, hq⟩ : ∃ q, anyP (fun i => decide (l.getD i 0 = x)) l.length = q := ⟨_, rfl⟩
  rw [hq]
  rw [HN.out] at hq
  have HQ := Lib.hid hq
  clear hq
  go_enter Tryz.func86, Tryz.ntmps86
  go_wp2_with fail
  go_loop [5] (fun v => ∃ k : Nat, v = .int .i64 (k : Int) ∧ k ≤ n ∧ (∀ i, i < k → decide (l.getD i 0 = x) = false)) (fun v => n - (intOf v).toNat)
  case atStart => exact ⟨0, rfl, Nat.zero_le _, fun i hi => absurd hi (Nat.not_lt_zero _)⟩
  case round =>
    obtain ⟨k, rfl, hkn, hm0⟩ := hrel
    have HM := Lib.hid hm0
    clear hm0
    by_cases hlt : k < n
    · have hix := fun W => HR.out.ix 70 3 Tryz.underlying70 (by kernel_rfl) hlt (c := c) W
      have hc := HR.out.cell k hlt
      rw [ints_getD _ _ (by rw [HN.out]; exact hlt)] at hc
      by_cases he : l.getD k 0 = x
      · have HE := Lib.hid (decide_eq_true he)
        have HO : Hid (q = true) := HQ.out.symm.trans (List.any_eq_true.2 ⟨k, List.mem_range.2 hlt, HE.out⟩)
        generalize l.getD k 0 = y at hc he
        have e1 : (y == x) = true := by rw [he]; simp
        clear he
        go_wp2_with fail
        go_ret
        exact ⟨by rw [HO.out]; rfl, rfl⟩
      · have HE := Lib.hid (decide_eq_false he)
        generalize l.getD k 0 = y at hc he
        have e1 : (y == x) = false := by rw [beq_eq_false_iff_ne]; exact fun e => he e
        clear he
        go_wp2_with fail
        go_round
        case rel =>
          refine ⟨k + 1, by go_num, by omega, fun i hi => ?_⟩
          by_cases e : i = k
          · subst e; exact HE.out
          · exact HM.out i (by omega)
        case measure => simp [intOf]; omega
    · obtain rfl : k = n := by omega
      have HO : Hid (q = false) := HQ.out.symm.trans (by
        unfold anyP
        rw [← Bool.not_eq_true, List.any_eq_true]
        rintro ⟨i, hi, hp⟩
        rw [HM.out i (List.mem_range.1 hi)] at hp
        cases hp)
      go_wp2_with fail
      go_ret
      exact ⟨by rw [HO.out]; rfl, rfl⟩

set_option maxRecDepth 20000 in
theorem rhas_str (ad : Option Addr) (n c : Nat) (l : List ByteArray) (x : ByteArray) (w : World) (hr : Sl w ad n (strs l)) :
    Calls Tryz.prog 56 #[.slice ad n c, .string x] w fun e w' => e = .returned (.bool (l.contains x)) ∧ w = w' := by
  rw [← any_contains l x .empty]
  obtain ⟨b, off, hr⟩ := hr
  have hn : l.length = n := by have := hr.len; rwa [strs_length] at this
  have HN := Lib.hid hn
  have HR := Lib.hid hr
  have hm := hr.max
  clear hr hn
  obtain ⟨q, hq⟩ : ∃ q, anyP (fun i => decide (l.getD i .empty = x)) l.length = q := ⟨_, rfl⟩
  rw [hq]
  rw [HN.out] at hq
  have HQ := Lib.hid hq
  clear hq
  go_enter Tryz.func56, Tryz.ntmps56
  go_wp2_with fail
  go_loop [5] (fun v => ∃ k : Nat, v = .int .i64 (k : Int) ∧ k ≤ n ∧ (∀ i, i < k → decide (l.getD i .empty = x) = false)) (fun v => n - (intOf v).toNat)
  case atStart => exact ⟨0, rfl, Nat.zero_le _, fun i hi => absurd hi (Nat.not_lt_zero _)⟩
  case round =>
    obtain ⟨k, rfl, hkn, hm0⟩ := hrel
    have HM := Lib.hid hm0
    clear hm0
    by_cases hlt : k < n
    · have hix := fun W => HR.out.ix 28 9 Tryz.underlying28 (by kernel_rfl) hlt (c := c) W
      have hc := HR.out.cell k hlt
      rw [strs_getD _ _ (by rw [HN.out]; exact hlt)] at hc
      by_cases he : l.getD k .empty = x
      · have HE := Lib.hid (decide_eq_true he)
        have HO : Hid (q = true) := HQ.out.symm.trans (List.any_eq_true.2 ⟨k, List.mem_range.2 hlt, HE.out⟩)
        generalize l.getD k .empty = y at hc he
        have e1 : (y.toList == x.toList) = true := by rw [he]; simp
        clear he
        go_wp2_with fail
        go_ret
        exact ⟨by rw [HO.out]; rfl, rfl⟩
      · have HE := Lib.hid (decide_eq_false he)
        generalize l.getD k .empty = y at hc he
        have e1 : (y.toList == x.toList) = false := by rw [beq_eq_false_iff_ne]; exact fun e => he (ByteArray.ext (by simpa [ByteArray.toList_eq] using e))
        clear he
        go_wp2_with fail
        go_round
        case rel =>
          refine ⟨k + 1, by go_num, by omega, fun i hi => ?_⟩
          by_cases e : i = k
          · subst e; exact HE.out
          · exact HM.out i (by omega)
        case measure => simp [intOf]; omega
    · obtain rfl : k = n := by omega
      have HO : Hid (q = false) := HQ.out.symm.trans (by
        unfold anyP
        rw [← Bool.not_eq_true, List.any_eq_true]
        rintro ⟨i, hi, hp⟩
        rw [HM.out i (List.mem_range.1 hi)] at hp
        cases hp)
      go_wp2_with fail
      go_ret
      exact ⟨by rw [HO.out]; rfl, rfl⟩

set_option maxRecDepth 20000 in
theorem rin_str (ad : Option Addr) (n c : Nat) (l : List ByteArray) (x : ByteArray) (w : World) (hr : Sl w ad n (strs l)) :
    Calls Tryz.prog 13 #[.slice ad n c, .string x] w fun e w' => e = .returned (.bool (l.contains x)) ∧ w = w' := by
  rw [← any_contains l x .empty]
  obtain ⟨b, off, hr⟩ := hr
  have hn : l.length = n := by have := hr.len; rwa [strs_length] at this
  have HN := Lib.hid hn
  have HR := Lib.hid hr
  have hm := hr.max
  clear hr hn
  obtain ⟨q, hq⟩ : ∃ q, anyP (fun i => decide (l.getD i .empty = x)) l.length = q := ⟨_, rfl⟩
  rw [hq]
  rw [HN.out] at hq
  have HQ := Lib.hid hq
  clear hq
  go_enter Tryz.func13, Tryz.ntmps13
  go_wp2_with fail
  go_loop [5] (fun v => ∃ k : Nat, v = .int .i64 (k : Int) ∧ k ≤ n ∧ (∀ i, i < k → decide (l.getD i .empty = x) = false)) (fun v => n - (intOf v).toNat)
  case atStart => exact ⟨0, rfl, Nat.zero_le _, fun i hi => absurd hi (Nat.not_lt_zero _)⟩
  case round =>
    obtain ⟨k, rfl, hkn, hm0⟩ := hrel
    have HM := Lib.hid hm0
    clear hm0
    by_cases hlt : k < n
    · have hix := fun W => HR.out.ix 28 9 Tryz.underlying28 (by kernel_rfl) hlt (c := c) W
      have hc := HR.out.cell k hlt
      rw [strs_getD _ _ (by rw [HN.out]; exact hlt)] at hc
      by_cases he : l.getD k .empty = x
      · have HE := Lib.hid (decide_eq_true he)
        have HO : Hid (q = true) := HQ.out.symm.trans (List.any_eq_true.2 ⟨k, List.mem_range.2 hlt, HE.out⟩)
        generalize l.getD k .empty = y at hc he
        have e1 : (y.toList == x.toList) = true := by rw [he]; simp
        clear he
        go_wp2_with fail
        go_ret
        exact ⟨by rw [HO.out]; rfl, rfl⟩
      · have HE := Lib.hid (decide_eq_false he)
        generalize l.getD k .empty = y at hc he
        have e1 : (y.toList == x.toList) = false := by rw [beq_eq_false_iff_ne]; exact fun e => he (ByteArray.ext (by simpa [ByteArray.toList_eq] using e))
        clear he
        go_wp2_with fail
        go_round
        case rel =>
          refine ⟨k + 1, by go_num, by omega, fun i hi => ?_⟩
          by_cases e : i = k
          · subst e; exact HE.out
          · exact HM.out i (by omega)
        case measure => simp [intOf]; omega
    · obtain rfl : k = n := by omega
      have HO : Hid (q = false) := HQ.out.symm.trans (by
        unfold anyP
        rw [← Bool.not_eq_true, List.any_eq_true]
        rintro ⟨i, hi, hp⟩
        rw [HM.out i (List.mem_range.1 hi)] at hp
        cases hp)
      go_wp2_with fail
      go_ret
      exact ⟨by rw [HO.out]; rfl, rfl⟩

/-- the moduli of an operand -/
def modsV (op : Int) : List Int := if op = 1 ∨ op = 2 then modsL else if op = 5 ∨ op = 6 then [10, 100] else []
theorem permV_mods (op md : Int) : permV op md = (modsV op).contains md := by
  unfold permV modsV
  split
  · rfl
  · split <;> rfl
theorem mods_any (op : Int) (w : World) : Calls Tryz.prog 87 #[.int .i64 op] w fun e w' => ∃ ad n c, e = .returned (.slice ad n c) ∧ Sl w' ad n (ints (modsV op)) ∧ Below w.heap.size w w' := by
  by_cases h12 : op = 1 ∨ op = 2
  · have HO : Hid (modsV op = modsL) := if_pos h12
    rw [HO.out]
    rcases h12 with h | h
    all_goals
      subst h
      go_enter Tryz.func87, Tryz.ntmps87
      go_wp2_with fail
      go_ret
      exact ⟨_, _, _, rfl, sl_made w (ints modsL) _ (by decide), (Below.refl _ _).alloc (Nat.le_refl _) _⟩
  · by_cases h56 : op = 5 ∨ op = 6
    · have HO : Hid (modsV op = [10, 100]) := by unfold Hid modsV; rw [if_neg h12, if_pos h56]
      rw [HO.out]
      rcases h56 with h | h
      all_goals
        subst h
        go_enter Tryz.func87, Tryz.ntmps87
        go_wp2_with fail
        go_ret
        exact ⟨_, _, _, rfl, sl_made w (ints [10, 100]) _ (by decide), (Below.refl _ _).alloc (Nat.le_refl _) _⟩
    · have HO : Hid (modsV op = []) := by unfold Hid modsV; rw [if_neg h12, if_neg h56]
      rw [HO.out]
      have e1 : (op == 1) = false := by simpa using fun h => h12 (.inl h)
      have e2 : (op == 2) = false := by simpa using fun h => h12 (.inr h)
      have e5 : (op == 5) = false := by simpa using fun h => h56 (.inl h)
      have e6 : (op == 6) = false := by simpa using fun h => h56 (.inr h)
      clear h12 h56
      go_enter Tryz.func87, Tryz.ntmps87
      go_wp2_with fail
      go_ret
      exact ⟨none, 0, 0, rfl, ⟨0, 0, rfl, Nat.zero_le _, fun h => absurd rfl h, fun i hi => absurd hi (Nat.not_lt_zero _)⟩, Below.refl _ _⟩
/-- the classes of rules -/
def classL : List ByteArray := [bs [122, 101, 114, 111], bs [111, 110, 101], bs [116, 119, 111], bs [102, 101, 119], bs [109, 97, 110, 121]]
theorem knownC_list (s : ByteArray) : knownC s = classL.contains s := rfl
theorem classes_any (w : World) : Calls Tryz.prog 57 #[] w fun e w' => ∃ ad n c, e = .returned (.slice ad n c) ∧ Sl w' ad n (strs classL) ∧ Below w.heap.size w w' := by
  go_enter Tryz.func57, Tryz.ntmps57
  go_wp2_with fail
  go_ret
  exact ⟨_, _, _, rfl, sl_made w (strs classL) _ (by decide), (Below.refl _ _).alloc (Nat.le_refl _) _⟩
end Go.Proofs.YtadhblppeaamlaaGreatDoor
