/- Walks over a relation: whether it is valid, in the reference. -/
import Derived.Test.YtmleeodfmmpdgaaGreatDoorQ22
import Derived.Test.YtmleeodfmmpdgaaGreatDoorQ13
namespace Go.Proofs.YtmleeodfmmpdgaaGreatDoor
open Go.RowKit
attribute [local go_sem] Ext.cell Ext.frozen
attribute [local go_sem ↓] Go.wp_at_zero Go.wp_at_succ
set_option maxRecDepth 20000 in
set_option maxHeartbeats 8000000 in
theorem rproper_any (x : Nat → Value) (r : Rel) (w : World) (h : RelC w x r) : Calls Tryz.prog 91 #[.agg #[x 0, x 1, x 2, x 3]] w fun e w' => e = .returned (.bool (properV r)) ∧ Below w.heap.size w w' := by
  obtain ⟨x0, x1, x2, ad, c, f, b, off, x3, hr, _, _, hlen, hf⟩ := h
  rw [x0, x1, x2, x3]
  clear x0 x1 x2 x3
  obtain ⟨op, md, neg, sp⟩ := r
  simp only at hr hf hlen ⊢
  obtain ⟨n, hn⟩ : ∃ n, sp.length = n := ⟨_, rfl⟩
  rw [hn] at hr hlen ⊢
  have HN := Lib.hid hn
  have HR := Lib.hid hr
  have HF := Lib.hid hf
  have HM := Lib.hid (fun w1 => mods_any op w1)
  have HP : Hid (permV op md = permV op md) := rfl
  have HH : Hid (∀ (ad2 : Option Addr) (n2 c2 : Nat) (w1 : World), Sl w1 ad2 n2 (ints (modsV op)) → Calls Tryz.prog 140 #[.slice ad2 n2 c2, .int .i64 md] w1 fun e w' => e = .returned (.bool (permV op md)) ∧ w1 = w') := fun ad2 n2 c2 w1 hs => by rw [permV_mods]; exact rhas_int ad2 n2 c2 (modsV op) md w1 hs
  have HG : Hid (∀ (w1 : World) (m1 : Nat), Calls Tryz.prog 142 #[.int .i64 op] (w1.drewN m1) fun e w2 => e = .returned (.int .i64 (greatV op)) ∧ ∃ m, w2 = w1.drewN m) := fun w1 m1 => Calls.quiet_of_same ((bound_any op _).mono fun _ _ h => ⟨h.1, h.2.symm⟩)
  clear hr hf hn
  by_cases h1 : op < 1
  · have HO : Hid (properV ⟨op, md, neg, sp⟩ = false) := properV_op (by simp only; omega)
    generalize properV ⟨op, md, neg, sp⟩ = q at *
    go_enter Tryz.func91, Tryz.ntmps91
    go_wp2_with fail
    go_quiet (fail)
    all_goals
      go_wp2_with fail
      go_ret
      exact ⟨by rw [HO.out]; rfl, by show Bel w _; exact Bel.drewN ((Bel.refl _).alloc _) _⟩
  have d1 := decide_eq_false h1
  by_cases h2 : 6 < op
  · have HO : Hid (properV ⟨op, md, neg, sp⟩ = false) := properV_op (by simp only; omega)
    generalize properV ⟨op, md, neg, sp⟩ = q at *
    have d2 := decide_eq_true h2
    go_enter Tryz.func91, Tryz.ntmps91
    go_wp2_with fail
    go_quiet (fail)
    all_goals
      go_wp2_with fail
      go_ret
      exact ⟨by rw [HO.out]; rfl, by show Bel w _; exact Bel.drewN ((Bel.refl _).alloc _) _⟩
  have d2 := decide_eq_false h2
  have HOP : Hid (1 ≤ op ∧ op ≤ 6) := ⟨by omega, by omega⟩
  by_cases h3 : md = 0
  · subst h3
    by_cases h4 : n < 1
    · have HO : Hid (properV ⟨op, 0, neg, sp⟩ = false) := properV_len (by simp only; rw [HN.out]; omega)
      generalize properV ⟨op, 0, neg, sp⟩ = q at *
      have h5 : (n : Int) < 1 := by omega
      have d3 := decide_eq_true h5
      go_enter Tryz.func91, Tryz.ntmps91
      go_wp2_with fail
      go_quiet (fail)
      all_goals
        go_wp2_with fail
        go_ret
        exact ⟨by rw [HO.out]; rfl, by show Bel w _; exact Bel.drewN ((Bel.refl _).alloc _) _⟩
    by_cases h6 : 4 < n
    · have HO : Hid (properV ⟨op, 0, neg, sp⟩ = false) := properV_len (by simp only; rw [HN.out]; omega)
      generalize properV ⟨op, 0, neg, sp⟩ = q at *
      have h5 : ¬ (n : Int) < 1 := by omega
      have d3 := decide_eq_false h5
      have h7 : 4 < (n : Int) := by omega
      have d4 := decide_eq_true h7
      go_enter Tryz.func91, Tryz.ntmps91
      go_wp2_with fail
      go_quiet (fail)
      all_goals
        go_wp2_with fail
        go_ret
        exact ⟨by rw [HO.out]; rfl, by show Bel w _; exact Bel.drewN ((Bel.refl _).alloc _) _⟩
    have h5 : ¬ (n : Int) < 1 := by omega
    have d3 := decide_eq_false h5
    have h7 : ¬ 4 < (n : Int) := by omega
    have d4 := decide_eq_false h7
    obtain ⟨q, hq⟩ : ∃ q, properV ⟨op, 0, neg, sp⟩ = q := ⟨_, rfl⟩
    rw [hq]
    have HQE := Lib.hid hq
    clear hq
    go_enter Tryz.func91, Tryz.ntmps91
    go_wp2_with fail
    go_quiet (fail)
    all_goals
      go_wp2_with fail
      refine wp_at_worldT ?_
      intro wb hwb
      have hb0 : wb.cell? ⟨w.heap.size, 0, none⟩ = some (.int .i64 op) := by rw [hwb]; simp [go_sem]
      have hb3 : wb.cell? ⟨w.heap.size, 3, none⟩ = some (.slice ad n c) := by rw [hwb]; simp [go_sem]
      have HBW : Hid (Below w.heap.size w wb) := by rw [hwb]; exact Bel.drewN ((Bel.refl _).alloc _) _
      have hwz : w.heap.size < wb.heap.size := World.block_lt_of_cell? _ _ hb0
      clear hwb
      have B0 := Lib.hid hb0
      have B3 := Lib.hid hb3
      have HRB := Lib.hid (HR.out.below HBW.out)
      go_loopw [3] (fun v wr => ∃ k : Nat, v = .int .i64 (k : Int) ∧ k ≤ n ∧ (∀ i, i < k → spanOk op (sp.getD i (0, 0)) = true) ∧ Below wb.heap.size wb wr) (fun v _ => n - (intOf v).toNat)
      case atStart => exact ⟨0, rfl, Nat.zero_le _, fun i hi => absurd hi (Nat.not_lt_zero _), Below.refl _ _⟩
      case round =>
        obtain ⟨k, rfl, hkn, hal, hbl⟩ := hrel
        have HAL := Lib.hid hal
        have HBL := Lib.hid hbl
        have hzr := hbl.size
        have hwr : w.heap.size < wr.heap.size := by omega
        have HWR := Lib.hid (HBW.out.trans (hbl.mono HBW.out.size))
        have r0 : wr.cell? ⟨w.heap.size, 0, none⟩ = some (.int .i64 op) := (hbl.cell (p := ⟨w.heap.size, 0, none⟩) hwz).trans B0.out
        have r3 : wr.cell? ⟨w.heap.size, 3, none⟩ = some (.slice ad n c) := (hbl.cell (p := ⟨w.heap.size, 3, none⟩) hwz).trans B3.out
        clear hal hbl
        by_cases hlt : k < n
        · have hrr := HRB.out.below HBL.out
          have hix := fun W => hrr.ix 92 152 Tryz.underlying92 (by kernel_rfl) (by omega) hlt c W
          have c0 : wr.cell? ⟨b, off + k * 2, none⟩ = some (f k 0) := hrr.cell k 0 hlt (by omega)
          have c1 : wr.cell? ⟨b, off + k * 2 + 1, none⟩ = some (f k 1) := hrr.cell k 1 hlt (by omega)
          obtain ⟨f0, f1⟩ := RowsOf.get HF.out (i := k) (by rw [HN.out]; exact hlt) (0, 0)
          rw [f0] at c0
          rw [f1] at c1
          have HNO : Hid (spanOk op (sp.getD k (0, 0)) = false → q = false) := fun h => HQE.out.symm.trans (properV_no (by simp only; rw [HN.out]; exact hlt) h)
          have HYES : Hid (spanOk op (sp.getD k (0, 0)) = true → ∀ i, i < k + 1 → spanOk op (sp.getD i (0, 0)) = true) := fun h i hi => by
            by_cases e : i = k
            · subst e; exact h
            · exact HAL.out i (by omega)
          clear hrr f0 f1
          generalize sp.getD k (0, 0) = s at *
          obtain ⟨a, z⟩ := s
          simp only at c0 c1
          by_cases q1 : a < 0
          · have HQ := Lib.hid (HNO.out (spanOk_no1 (by assumption)))
            clear HNO HYES
            generalize greatV op = g at *
            have d1 := decide_eq_true q1
            go_wp2_with fail
            go_quiet ((go_at_call 142; exact HG.out _ _))
            all_goals
              go_wp2_with fail
              go_ret
              exact ⟨by rw [HQ.out]; rfl, by show Bel w _; repeat (first | exact Bel.refl _ | exact HWR.out | refine Bel.drew ?_ | refine Bel.drewN ?_ _ | refine Bel.alloc ?_ _ | refine Bel.ext ?_ _)⟩
          by_cases q2 : z < a
          · have HQ := Lib.hid (HNO.out (spanOk_no2 (by assumption)))
            clear HNO HYES
            generalize greatV op = g at *
            have d1 := decide_eq_false q1
            have d2 := decide_eq_true q2
            go_wp2_with fail
            go_quiet ((go_at_call 142; exact HG.out _ _))
            all_goals
              go_wp2_with fail
              go_ret
              exact ⟨by rw [HQ.out]; rfl, by show Bel w _; repeat (first | exact Bel.refl _ | exact HWR.out | refine Bel.drew ?_ | refine Bel.drewN ?_ _ | refine Bel.alloc ?_ _ | refine Bel.ext ?_ _)⟩
          by_cases q3 : greatV op < z
          · have HQ := Lib.hid (HNO.out (spanOk_no3 (by assumption)))
            clear HNO HYES
            generalize greatV op = g at *
            have d1 := decide_eq_false q1
            have d2 := decide_eq_false q2
            have d3 := decide_eq_true q3
            go_wp2_with fail
            go_quiet ((go_at_call 142; exact HG.out _ _))
            all_goals
              go_wp2_with fail
              go_ret
              exact ⟨by rw [HQ.out]; rfl, by show Bel w _; repeat (first | exact Bel.refl _ | exact HWR.out | refine Bel.drew ?_ | refine Bel.drewN ?_ _ | refine Bel.alloc ?_ _ | refine Bel.ext ?_ _)⟩
          have HQ := Lib.hid (HYES.out (spanOk_yes q1 q2 q3))
          clear HNO HYES
          generalize greatV op = g at *
          have d1 := decide_eq_false q1
          have d2 := decide_eq_false q2
          have d3 := decide_eq_false q3
          go_wp2_with fail
          go_quiet ((go_at_call 142; exact HG.out _ _))
          all_goals
            go_wp2_with fail
            go_roundw
            case rel => exact ⟨k + 1, by go_num, by omega, HQ.out, HBL.out.trans (Below.mono (w := wr) (by show Bel wr _; repeat (first | exact Bel.refl _ | refine Bel.drew ?_ | refine Bel.drewN ?_ _ | refine Bel.alloc ?_ _ | refine Bel.ext ?_ _)) hzr)⟩
            case measure => simp [intOf]; omega
        · obtain rfl : k = n := by omega
          have HO : Hid (q = true) := HQE.out.symm.trans (properV_yes HOP.out (.inl rfl) (by simp only; rw [HN.out]; omega) (by simp only; rw [HN.out]; exact HAL.out))
          go_wp2_with fail
          go_ret
          exact ⟨by rw [HO.out]; rfl, HWR.out⟩
  · have h30 : (md != 0) = true := by simpa using h3
    have HMD := Lib.hid h3
    clear h3
    cases hp : permV op md with
    | false =>
      have HO : Hid (properV ⟨op, md, neg, sp⟩ = false) := properV_md HMD.out hp
      generalize properV ⟨op, md, neg, sp⟩ = q at *
      rw [hp] at HH
      clear hp HP
      go_enter Tryz.func91, Tryz.ntmps91
      go_wp2_with fail
      refine wp_at_worldT ?_
      intro wa hwa
      have a0 : wa.cell? ⟨w.heap.size, 0, none⟩ = some (.int .i64 op) := by rw [hwa]; simp [go_sem]
      have a1 : wa.cell? ⟨w.heap.size, 1, none⟩ = some (.int .i64 md) := by rw [hwa]; simp [go_sem]
      have a3 : wa.cell? ⟨w.heap.size, 3, none⟩ = some (.slice ad n c) := by rw [hwa]; simp [go_sem]
      have HBA : Hid (Below w.heap.size w wa) := by rw [hwa]; exact (Below.refl _ _).alloc (Nat.le_refl _) _
      have hwz : w.heap.size < wa.heap.size := World.block_lt_of_cell? _ _ a0
      clear hwa
      refine wp_region_held_drew (S := fun w' => w'.cell? ⟨w.heap.size, 0, none⟩ = some (.int .i64 op) ∧ w'.cell? ⟨w.heap.size, 1, none⟩ = some (.int .i64 md) ∧ w'.cell? ⟨w.heap.size, 3, none⟩ = some (.slice ad n c)) (by kernel_rfl) ?_ (fun hHeld => ?_)
      · go_keep
      refine wpAnyH_take (i := 0) (v := ?_) rfl (by kernel_rfl) (by kernel_rfl) (by kernel_rfl) (fun _ _ _ h => h) (Or.inl ⟨by kernel_rfl, ?_⟩) hHeld ?_
      rotate_left
      · (intro wx hSw; (try dsimp only at hSw); go_simp; try with_reducible rfl)
      refine wpAnyH_take (i := 1) (v := ?_) rfl (by kernel_rfl) (by kernel_rfl) (by kernel_rfl) (fun _ _ _ h => h) (Or.inl ⟨by kernel_rfl, ?_⟩) hHeld ?_
      rotate_left
      · (intro wx hSw; (try dsimp only at hSw); go_simp; try with_reducible rfl)
      refine wpAnyH_take (i := 2) (v := ?_) rfl (by kernel_rfl) (by kernel_rfl) (by kernel_rfl) (fun _ _ _ h => h) (Or.inl ⟨by kernel_rfl, ?_⟩) hHeld ?_
      rotate_left
      · (intro wx hSw; (try dsimp only at hSw); go_simp; try with_reducible rfl)
      refine wpAnyH_take (i := 3) (v := ?_) rfl (by kernel_rfl) (by kernel_rfl) (by kernel_rfl) (fun _ _ _ h => h) (Or.inl ⟨by kernel_rfl, ?_⟩) hHeld ?_
      rotate_left
      · (intro wx hSw; (try dsimp only at hSw); go_simp; try with_reducible rfl)
      refine wpAnyH_take (i := 4) (v := ?_) rfl (by kernel_rfl) (by kernel_rfl) (by kernel_rfl) (fun _ _ _ h => h) (Or.inl ⟨by kernel_rfl, ?_⟩) hHeld ?_
      rotate_left
      · (intro wx hSw; (try dsimp only at hSw); go_simp; try with_reducible rfl)
      refine wpAnyH_take (i := 5) (v := ?_) rfl (by kernel_rfl) (by kernel_rfl) (by kernel_rfl) (fun _ _ _ h => h) (Or.inl ⟨by kernel_rfl, ?_⟩) hHeld ?_
      rotate_left
      · (intro wx hSw; (try dsimp only at hSw); go_simp; try with_reducible rfl)
      refine wpAnyH_take (i := 6) (v := ?_) rfl (by kernel_rfl) (by kernel_rfl) (by kernel_rfl) (fun _ _ _ h => h) (Or.inl ⟨by kernel_rfl, ?_⟩) hHeld ?_
      rotate_left
      · (intro wx hSw; (try dsimp only at hSw); go_simp; try with_reducible rfl)
      refine wpAnyH_take (i := 7) (v := ?_) rfl (by kernel_rfl) (by kernel_rfl) (by kernel_rfl) (fun _ _ _ h => h) (Or.inl ⟨by kernel_rfl, ?_⟩) hHeld ?_
      rotate_left
      · (intro wx hSw; (try dsimp only at hSw); go_simp; try with_reducible rfl)
      refine wpAnyH_take (i := 8) (v := ?_) rfl (by kernel_rfl) (by kernel_rfl) (by kernel_rfl) (fun _ _ _ h => h) (Or.inl ⟨by kernel_rfl, ?_⟩) hHeld ?_
      rotate_left
      · (intro wx hSw; (try dsimp only at hSw); go_simp; try with_reducible rfl)
      refine wpAnyH_take (i := 9) (v := ?_) rfl (by kernel_rfl) (by kernel_rfl) (by kernel_rfl) (fun _ _ _ h => h) (Or.inl ⟨by kernel_rfl, ?_⟩) hHeld ?_
      rotate_left
      · (intro wx hSw; (try dsimp only at hSw); go_simp; try with_reducible rfl)
      refine wpAnyH_take (i := 10) (v := ?_) rfl (by kernel_rfl) (by kernel_rfl) (by kernel_rfl) (fun _ _ _ h => h) (Or.inl ⟨by kernel_rfl, ?_⟩) hHeld ?_
      rotate_left
      · (intro wx hSw; (try dsimp only at hSw); go_simp; try with_reducible rfl)
      refine wpAnyH_take (i := 11) (v := ?_) rfl (by kernel_rfl) (by kernel_rfl) (by kernel_rfl) (fun _ _ _ h => h) (Or.inl ⟨by kernel_rfl, ?_⟩) hHeld ?_
      rotate_left
      · (intro wx hSw; (try dsimp only at hSw); go_simp; try with_reducible rfl)
      refine wpAnyH_take (i := 12) (v := ?_) rfl (by kernel_rfl) (by kernel_rfl) (by kernel_rfl) (fun _ _ _ h => h) (Or.inl ⟨by kernel_rfl, ?_⟩) hHeld ?_
      rotate_left
      · (intro wx hSw; (try dsimp only at hSw); go_simp; try with_reducible rfl)
      refine wpAnyH_take (i := 13) (v := ?_) rfl (by kernel_rfl) (by kernel_rfl) (by kernel_rfl) (fun _ _ _ h => h) (Or.inl ⟨by kernel_rfl, ?_⟩) hHeld ?_
      rotate_left
      · (intro wx hSw; (try dsimp only at hSw); go_simp; try with_reducible rfl)
      refine wpAnyH_take (i := 14) (v := ?_) rfl (by kernel_rfl) (by kernel_rfl) (by kernel_rfl) (fun _ _ _ h => h) (Or.inl ⟨by kernel_rfl, ?_⟩) hHeld ?_
      rotate_left
      · (intro wx hSw; (try dsimp only at hSw); go_simp; try with_reducible rfl)
      refine wpAnyH_take (i := 16) (v := ?_) rfl (by kernel_rfl) (by kernel_rfl) (by kernel_rfl) (fun _ _ _ h => h) (Or.inl ⟨by kernel_rfl, ?_⟩) hHeld ?_
      rotate_left
      · (intro wx hSw; (try dsimp only at hSw); go_simp; try with_reducible rfl)
      refine wpAnyH_take (i := 17) (v := ?_) rfl (by kernel_rfl) (by kernel_rfl) (by kernel_rfl) (fun _ _ _ h => h) (Or.inl ⟨by kernel_rfl, ?_⟩) hHeld ?_
      rotate_left
      · (intro wx hSw; (try dsimp only at hSw); go_simp; try with_reducible rfl)
      simp only [Act.put, List.getElem_toArray, List.getElem_cons_succ, List.getElem_cons_zero, List.setIfInBounds_toArray, List.set_cons_zero, List.set_cons_succ]
      refine wpAnyH_ready (rs := [15]) (by kernel_rfl) (by simp) ?_
      refine AllReadyH.cons rfl (fun K hK => ?_) AllReadyH.nil
      go_simp
      refine (HM.out _).mono ?_
      rintro e w2 ⟨ad2, n2, c2, rfl, hs2, hb2⟩
      have k0 : w2.cell? ⟨w.heap.size, 0, none⟩ = some (.int .i64 op) := (hb2.cell (p := ⟨w.heap.size, 0, none⟩) hwz).trans a0
      have k1 : w2.cell? ⟨w.heap.size, 1, none⟩ = some (.int .i64 md) := (hb2.cell (p := ⟨w.heap.size, 1, none⟩) hwz).trans a1
      have k3 : w2.cell? ⟨w.heap.size, 3, none⟩ = some (.slice ad n c) := (hb2.cell (p := ⟨w.heap.size, 3, none⟩) hwz).trans a3
      have HB2 : Hid (Below w.heap.size w w2) := HBA.out.trans (((Below.refl _ _).drew.trans hb2).mono HBA.out.size)
      have HS2 := Lib.hid hs2
      clear hs2 hb2
      go_simp
      clear hHeld
      refine hK.out _ _ ?_ (fun hHeld => ?_)
      · exact ⟨k0, k1, k3⟩
      clear hK K
      refine wpAnyH_ready (rs := [18]) (by kernel_rfl) (by simp) ?_
      refine AllReadyH.cons rfl (fun K hK => ?_) AllReadyH.nil
      go_simp
      refine (HH.out _ _ _ _ HS2.out).mono ?_
      rintro e _ ⟨rfl, rfl⟩
      go_simp
      clear hHeld
      refine hK.out _ _ ?_ (fun hHeld => ?_)
      · exact ⟨k0, k1, k3⟩
      clear hK K
      refine wpAnyH_take (i := 19) (v := ?_) rfl (by kernel_rfl) (by kernel_rfl) (by kernel_rfl) (fun _ _ _ h => h) (Or.inl ⟨by kernel_rfl, ?_⟩) hHeld ?_
      rotate_left
      · (intro wx hSw; (try dsimp only at hSw); go_simp; try with_reducible rfl)
      refine wpAnyH_take (i := 20) (v := ?_) rfl (by kernel_rfl) (by kernel_rfl) (by kernel_rfl) (fun _ _ _ h => h) (Or.inl ⟨by kernel_rfl, ?_⟩) hHeld ?_
      rotate_left
      · (intro wx hSw; (try dsimp only at hSw); go_simp; try with_reducible rfl)
      refine wpAnyH_take (i := 21) (v := ?_) rfl (by kernel_rfl) (by kernel_rfl) (by kernel_rfl) (fun _ _ _ h => h) (Or.inl ⟨by kernel_rfl, ?_⟩) hHeld ?_
      rotate_left
      · (intro wx hSw; (try dsimp only at hSw); go_simp; try with_reducible rfl)
      refine wpAnyH_take (i := 22) (v := ?_) rfl (by kernel_rfl) (by kernel_rfl) (by kernel_rfl) (fun _ _ _ h => h) (Or.inl ⟨by kernel_rfl, ?_⟩) hHeld ?_
      rotate_left
      · (intro wx hSw; (try dsimp only at hSw); go_simp; try with_reducible rfl)
      refine wpAnyH_take (i := 23) rfl (by kernel_rfl) (by kernel_rfl) (by kernel_rfl) (fun _ _ _ h => h) (Or.inr ⟨by kernel_rfl, rfl⟩) hHeld ?_
      refine wpAnyH_take (i := 24) rfl (by kernel_rfl) (by kernel_rfl) (by kernel_rfl) (fun _ _ _ h => h) (Or.inr ⟨by kernel_rfl, rfl⟩) hHeld ?_
      refine wpAnyH_take (i := 25) rfl (by kernel_rfl) (by kernel_rfl) (by kernel_rfl) (fun _ _ _ h => h) (Or.inr ⟨by kernel_rfl, rfl⟩) hHeld ?_
      refine wpAnyH_take (i := 26) rfl (by kernel_rfl) (by kernel_rfl) (by kernel_rfl) (fun _ _ _ h => h) (Or.inr ⟨by kernel_rfl, rfl⟩) hHeld ?_
      refine wpAnyH_take (i := 27) (v := ?_) rfl (by kernel_rfl) (by kernel_rfl) (by kernel_rfl) (fun _ _ _ h => h) (Or.inl ⟨by kernel_rfl, ?_⟩) hHeld ?_
      rotate_left
      · (intro wx hSw; (try dsimp only at hSw); go_simp; try with_reducible rfl)
      refine wpAnyH_take (i := 28) (v := ?_) rfl (by kernel_rfl) (by kernel_rfl) (by kernel_rfl) (fun _ _ _ h => h) (Or.inl ⟨by kernel_rfl, ?_⟩) hHeld ?_
      rotate_left
      · (intro wx hSw; (try dsimp only at hSw); go_simp; try with_reducible rfl)
      refine wpAnyH_take (i := 29) rfl (by kernel_rfl) (by kernel_rfl) (by kernel_rfl) (fun _ _ _ h => h) (Or.inr ⟨by kernel_rfl, rfl⟩) hHeld ?_
      refine wpAnyH_take (i := 30) rfl (by kernel_rfl) (by kernel_rfl) (by kernel_rfl) (fun _ _ _ h => h) (Or.inr ⟨by kernel_rfl, rfl⟩) hHeld ?_
      refine wpAnyH_take (i := 31) rfl (by kernel_rfl) (by kernel_rfl) (by kernel_rfl) (fun _ _ _ h => h) (Or.inr ⟨by kernel_rfl, rfl⟩) hHeld ?_
      refine wpAnyH_take (i := 32) rfl (by kernel_rfl) (by kernel_rfl) (by kernel_rfl) (fun _ _ _ h => h) (Or.inr ⟨by kernel_rfl, rfl⟩) hHeld ?_
      refine wpAnyH_take (i := 33) (v := ?_) rfl (by kernel_rfl) (by kernel_rfl) (by kernel_rfl) (fun _ _ _ h => h) (Or.inl ⟨by kernel_rfl, ?_⟩) hHeld ?_
      rotate_left
      · (intro wx hSw; (try dsimp only at hSw); go_simp; try with_reducible rfl)
      simp only [Act.put, List.getElem_toArray, List.getElem_cons_succ, List.getElem_cons_zero, List.setIfInBounds_toArray, List.set_cons_zero, List.set_cons_succ]
      refine wpAnyH_done (by kernel_rfl) ?_ _
      clear hHeld a0 a1 a3
      all_goals
        go_wp2_with fail
        go_ret
        exact ⟨by rw [HO.out]; rfl, HB2.out⟩
    | true =>
      have HPT := Lib.hid hp
      rw [hp] at HH
      clear hp HP
      by_cases h4 : n < 1
      · have HO : Hid (properV ⟨op, md, neg, sp⟩ = false) := properV_len (by simp only; rw [HN.out]; omega)
        generalize properV ⟨op, md, neg, sp⟩ = q at *
        have h5 : (n : Int) < 1 := by omega
        have d3 := decide_eq_true h5
        go_enter Tryz.func91, Tryz.ntmps91
        go_wp2_with fail
        refine wp_at_worldT ?_
        intro wa hwa
        have a0 : wa.cell? ⟨w.heap.size, 0, none⟩ = some (.int .i64 op) := by rw [hwa]; simp [go_sem]
        have a1 : wa.cell? ⟨w.heap.size, 1, none⟩ = some (.int .i64 md) := by rw [hwa]; simp [go_sem]
        have a3 : wa.cell? ⟨w.heap.size, 3, none⟩ = some (.slice ad n c) := by rw [hwa]; simp [go_sem]
        have HBA : Hid (Below w.heap.size w wa) := by rw [hwa]; exact (Below.refl _ _).alloc (Nat.le_refl _) _
        have hwz : w.heap.size < wa.heap.size := World.block_lt_of_cell? _ _ a0
        clear hwa
        refine wp_region_held_drew (S := fun w' => w'.cell? ⟨w.heap.size, 0, none⟩ = some (.int .i64 op) ∧ w'.cell? ⟨w.heap.size, 1, none⟩ = some (.int .i64 md) ∧ w'.cell? ⟨w.heap.size, 3, none⟩ = some (.slice ad n c)) (by kernel_rfl) ?_ (fun hHeld => ?_)
        · go_keep
        refine wpAnyH_take (i := 0) (v := ?_) rfl (by kernel_rfl) (by kernel_rfl) (by kernel_rfl) (fun _ _ _ h => h) (Or.inl ⟨by kernel_rfl, ?_⟩) hHeld ?_
        rotate_left
        · (intro wx hSw; (try dsimp only at hSw); go_simp; try with_reducible rfl)
        refine wpAnyH_take (i := 1) (v := ?_) rfl (by kernel_rfl) (by kernel_rfl) (by kernel_rfl) (fun _ _ _ h => h) (Or.inl ⟨by kernel_rfl, ?_⟩) hHeld ?_
        rotate_left
        · (intro wx hSw; (try dsimp only at hSw); go_simp; try with_reducible rfl)
        refine wpAnyH_take (i := 2) (v := ?_) rfl (by kernel_rfl) (by kernel_rfl) (by kernel_rfl) (fun _ _ _ h => h) (Or.inl ⟨by kernel_rfl, ?_⟩) hHeld ?_
        rotate_left
        · (intro wx hSw; (try dsimp only at hSw); go_simp; try with_reducible rfl)
        refine wpAnyH_take (i := 3) (v := ?_) rfl (by kernel_rfl) (by kernel_rfl) (by kernel_rfl) (fun _ _ _ h => h) (Or.inl ⟨by kernel_rfl, ?_⟩) hHeld ?_
        rotate_left
        · (intro wx hSw; (try dsimp only at hSw); go_simp; try with_reducible rfl)
        refine wpAnyH_take (i := 4) (v := ?_) rfl (by kernel_rfl) (by kernel_rfl) (by kernel_rfl) (fun _ _ _ h => h) (Or.inl ⟨by kernel_rfl, ?_⟩) hHeld ?_
        rotate_left
        · (intro wx hSw; (try dsimp only at hSw); go_simp; try with_reducible rfl)
        refine wpAnyH_take (i := 5) (v := ?_) rfl (by kernel_rfl) (by kernel_rfl) (by kernel_rfl) (fun _ _ _ h => h) (Or.inl ⟨by kernel_rfl, ?_⟩) hHeld ?_
        rotate_left
        · (intro wx hSw; (try dsimp only at hSw); go_simp; try with_reducible rfl)
        refine wpAnyH_take (i := 6) (v := ?_) rfl (by kernel_rfl) (by kernel_rfl) (by kernel_rfl) (fun _ _ _ h => h) (Or.inl ⟨by kernel_rfl, ?_⟩) hHeld ?_
        rotate_left
        · (intro wx hSw; (try dsimp only at hSw); go_simp; try with_reducible rfl)
        refine wpAnyH_take (i := 7) (v := ?_) rfl (by kernel_rfl) (by kernel_rfl) (by kernel_rfl) (fun _ _ _ h => h) (Or.inl ⟨by kernel_rfl, ?_⟩) hHeld ?_
        rotate_left
        · (intro wx hSw; (try dsimp only at hSw); go_simp; try with_reducible rfl)
        refine wpAnyH_take (i := 8) (v := ?_) rfl (by kernel_rfl) (by kernel_rfl) (by kernel_rfl) (fun _ _ _ h => h) (Or.inl ⟨by kernel_rfl, ?_⟩) hHeld ?_
        rotate_left
        · (intro wx hSw; (try dsimp only at hSw); go_simp; try with_reducible rfl)
        refine wpAnyH_take (i := 9) (v := ?_) rfl (by kernel_rfl) (by kernel_rfl) (by kernel_rfl) (fun _ _ _ h => h) (Or.inl ⟨by kernel_rfl, ?_⟩) hHeld ?_
        rotate_left
        · (intro wx hSw; (try dsimp only at hSw); go_simp; try with_reducible rfl)
        refine wpAnyH_take (i := 10) (v := ?_) rfl (by kernel_rfl) (by kernel_rfl) (by kernel_rfl) (fun _ _ _ h => h) (Or.inl ⟨by kernel_rfl, ?_⟩) hHeld ?_
        rotate_left
        · (intro wx hSw; (try dsimp only at hSw); go_simp; try with_reducible rfl)
        refine wpAnyH_take (i := 11) (v := ?_) rfl (by kernel_rfl) (by kernel_rfl) (by kernel_rfl) (fun _ _ _ h => h) (Or.inl ⟨by kernel_rfl, ?_⟩) hHeld ?_
        rotate_left
        · (intro wx hSw; (try dsimp only at hSw); go_simp; try with_reducible rfl)
        refine wpAnyH_take (i := 12) (v := ?_) rfl (by kernel_rfl) (by kernel_rfl) (by kernel_rfl) (fun _ _ _ h => h) (Or.inl ⟨by kernel_rfl, ?_⟩) hHeld ?_
        rotate_left
        · (intro wx hSw; (try dsimp only at hSw); go_simp; try with_reducible rfl)
        refine wpAnyH_take (i := 13) (v := ?_) rfl (by kernel_rfl) (by kernel_rfl) (by kernel_rfl) (fun _ _ _ h => h) (Or.inl ⟨by kernel_rfl, ?_⟩) hHeld ?_
        rotate_left
        · (intro wx hSw; (try dsimp only at hSw); go_simp; try with_reducible rfl)
        refine wpAnyH_take (i := 14) (v := ?_) rfl (by kernel_rfl) (by kernel_rfl) (by kernel_rfl) (fun _ _ _ h => h) (Or.inl ⟨by kernel_rfl, ?_⟩) hHeld ?_
        rotate_left
        · (intro wx hSw; (try dsimp only at hSw); go_simp; try with_reducible rfl)
        refine wpAnyH_take (i := 16) (v := ?_) rfl (by kernel_rfl) (by kernel_rfl) (by kernel_rfl) (fun _ _ _ h => h) (Or.inl ⟨by kernel_rfl, ?_⟩) hHeld ?_
        rotate_left
        · (intro wx hSw; (try dsimp only at hSw); go_simp; try with_reducible rfl)
        refine wpAnyH_take (i := 17) (v := ?_) rfl (by kernel_rfl) (by kernel_rfl) (by kernel_rfl) (fun _ _ _ h => h) (Or.inl ⟨by kernel_rfl, ?_⟩) hHeld ?_
        rotate_left
        · (intro wx hSw; (try dsimp only at hSw); go_simp; try with_reducible rfl)
        simp only [Act.put, List.getElem_toArray, List.getElem_cons_succ, List.getElem_cons_zero, List.setIfInBounds_toArray, List.set_cons_zero, List.set_cons_succ]
        refine wpAnyH_ready (rs := [15]) (by kernel_rfl) (by simp) ?_
        refine AllReadyH.cons rfl (fun K hK => ?_) AllReadyH.nil
        go_simp
        refine (HM.out _).mono ?_
        rintro e w2 ⟨ad2, n2, c2, rfl, hs2, hb2⟩
        have k0 : w2.cell? ⟨w.heap.size, 0, none⟩ = some (.int .i64 op) := (hb2.cell (p := ⟨w.heap.size, 0, none⟩) hwz).trans a0
        have k1 : w2.cell? ⟨w.heap.size, 1, none⟩ = some (.int .i64 md) := (hb2.cell (p := ⟨w.heap.size, 1, none⟩) hwz).trans a1
        have k3 : w2.cell? ⟨w.heap.size, 3, none⟩ = some (.slice ad n c) := (hb2.cell (p := ⟨w.heap.size, 3, none⟩) hwz).trans a3
        have HB2 : Hid (Below w.heap.size w w2) := HBA.out.trans (((Below.refl _ _).drew.trans hb2).mono HBA.out.size)
        have HS2 := Lib.hid hs2
        clear hs2 hb2
        go_simp
        clear hHeld
        refine hK.out _ _ ?_ (fun hHeld => ?_)
        · exact ⟨k0, k1, k3⟩
        clear hK K
        refine wpAnyH_ready (rs := [18]) (by kernel_rfl) (by simp) ?_
        refine AllReadyH.cons rfl (fun K hK => ?_) AllReadyH.nil
        go_simp
        refine (HH.out _ _ _ _ HS2.out).mono ?_
        rintro e _ ⟨rfl, rfl⟩
        go_simp
        clear hHeld
        refine hK.out _ _ ?_ (fun hHeld => ?_)
        · exact ⟨k0, k1, k3⟩
        clear hK K
        refine wpAnyH_take (i := 19) (v := ?_) rfl (by kernel_rfl) (by kernel_rfl) (by kernel_rfl) (fun _ _ _ h => h) (Or.inl ⟨by kernel_rfl, ?_⟩) hHeld ?_
        rotate_left
        · (intro wx hSw; (try dsimp only at hSw); go_simp; try with_reducible rfl)
        refine wpAnyH_take (i := 20) (v := ?_) rfl (by kernel_rfl) (by kernel_rfl) (by kernel_rfl) (fun _ _ _ h => h) (Or.inl ⟨by kernel_rfl, ?_⟩) hHeld ?_
        rotate_left
        · (intro wx hSw; (try dsimp only at hSw); go_simp; try with_reducible rfl)
        refine wpAnyH_take (i := 21) (v := ?_) rfl (by kernel_rfl) (by kernel_rfl) (by kernel_rfl) (fun _ _ _ h => h) (Or.inl ⟨by kernel_rfl, ?_⟩) hHeld ?_
        rotate_left
        · (intro wx hSw; (try dsimp only at hSw); go_simp; try with_reducible rfl)
        refine wpAnyH_take (i := 22) (v := ?_) rfl (by kernel_rfl) (by kernel_rfl) (by kernel_rfl) (fun _ _ _ h => h) (Or.inl ⟨by kernel_rfl, ?_⟩) hHeld ?_
        rotate_left
        · (intro wx hSw; (try dsimp only at hSw); go_simp; try with_reducible rfl)
        refine wpAnyH_take (i := 23) (v := ?_) rfl (by kernel_rfl) (by kernel_rfl) (by kernel_rfl) (fun _ _ _ h => h) (Or.inl ⟨by kernel_rfl, ?_⟩) hHeld ?_
        rotate_left
        · (intro wx hSw; (try dsimp only at hSw); go_simp; try with_reducible rfl)
        refine wpAnyH_take (i := 24) (v := ?_) rfl (by kernel_rfl) (by kernel_rfl) (by kernel_rfl) (fun _ _ _ h => h) (Or.inl ⟨by kernel_rfl, ?_⟩) hHeld ?_
        rotate_left
        · (intro wx hSw; (try dsimp only at hSw); go_simp; try with_reducible rfl)
        refine wpAnyH_take (i := 25) (v := ?_) rfl (by kernel_rfl) (by kernel_rfl) (by kernel_rfl) (fun _ _ _ h => h) (Or.inl ⟨by kernel_rfl, ?_⟩) hHeld ?_
        rotate_left
        · (intro wx hSw; (try dsimp only at hSw); go_simp; try with_reducible rfl)
        refine wpAnyH_take (i := 26) (v := ?_) rfl (by kernel_rfl) (by kernel_rfl) (by kernel_rfl) (fun _ _ _ h => h) (Or.inl ⟨by kernel_rfl, ?_⟩) hHeld ?_
        rotate_left
        · (intro wx hSw; (try dsimp only at hSw); go_simp; try with_reducible rfl)
        refine wpAnyH_take (i := 27) (v := ?_) rfl (by kernel_rfl) (by kernel_rfl) (by kernel_rfl) (fun _ _ _ h => h) (Or.inl ⟨by kernel_rfl, ?_⟩) hHeld ?_
        rotate_left
        · (intro wx hSw; (try dsimp only at hSw); go_simp; try with_reducible rfl)
        refine wpAnyH_take (i := 28) (v := ?_) rfl (by kernel_rfl) (by kernel_rfl) (by kernel_rfl) (fun _ _ _ h => h) (Or.inl ⟨by kernel_rfl, ?_⟩) hHeld ?_
        rotate_left
        · (intro wx hSw; (try dsimp only at hSw); go_simp; try with_reducible rfl)
        refine wpAnyH_take (i := 29) rfl (by kernel_rfl) (by kernel_rfl) (by kernel_rfl) (fun _ _ _ h => h) (Or.inr ⟨by kernel_rfl, rfl⟩) hHeld ?_
        refine wpAnyH_take (i := 30) rfl (by kernel_rfl) (by kernel_rfl) (by kernel_rfl) (fun _ _ _ h => h) (Or.inr ⟨by kernel_rfl, rfl⟩) hHeld ?_
        refine wpAnyH_take (i := 31) rfl (by kernel_rfl) (by kernel_rfl) (by kernel_rfl) (fun _ _ _ h => h) (Or.inr ⟨by kernel_rfl, rfl⟩) hHeld ?_
        refine wpAnyH_take (i := 32) rfl (by kernel_rfl) (by kernel_rfl) (by kernel_rfl) (fun _ _ _ h => h) (Or.inr ⟨by kernel_rfl, rfl⟩) hHeld ?_
        refine wpAnyH_take (i := 33) (v := ?_) rfl (by kernel_rfl) (by kernel_rfl) (by kernel_rfl) (fun _ _ _ h => h) (Or.inl ⟨by kernel_rfl, ?_⟩) hHeld ?_
        rotate_left
        · (intro wx hSw; (try dsimp only at hSw); go_simp; try with_reducible rfl)
        simp only [Act.put, List.getElem_toArray, List.getElem_cons_succ, List.getElem_cons_zero, List.setIfInBounds_toArray, List.set_cons_zero, List.set_cons_succ]
        refine wpAnyH_done (by kernel_rfl) ?_ _
        clear hHeld a0 a1 a3
        all_goals
          go_wp2_with fail
          go_ret
          exact ⟨by rw [HO.out]; rfl, HB2.out⟩
      by_cases h6 : 4 < n
      · have HO : Hid (properV ⟨op, md, neg, sp⟩ = false) := properV_len (by simp only; rw [HN.out]; omega)
        generalize properV ⟨op, md, neg, sp⟩ = q at *
        have h5 : ¬ (n : Int) < 1 := by omega
        have d3 := decide_eq_false h5
        have h7 : 4 < (n : Int) := by omega
        have d4 := decide_eq_true h7
        go_enter Tryz.func91, Tryz.ntmps91
        go_wp2_with fail
        refine wp_at_worldT ?_
        intro wa hwa
        have a0 : wa.cell? ⟨w.heap.size, 0, none⟩ = some (.int .i64 op) := by rw [hwa]; simp [go_sem]
        have a1 : wa.cell? ⟨w.heap.size, 1, none⟩ = some (.int .i64 md) := by rw [hwa]; simp [go_sem]
        have a3 : wa.cell? ⟨w.heap.size, 3, none⟩ = some (.slice ad n c) := by rw [hwa]; simp [go_sem]
        have HBA : Hid (Below w.heap.size w wa) := by rw [hwa]; exact (Below.refl _ _).alloc (Nat.le_refl _) _
        have hwz : w.heap.size < wa.heap.size := World.block_lt_of_cell? _ _ a0
        clear hwa
        refine wp_region_held_drew (S := fun w' => w'.cell? ⟨w.heap.size, 0, none⟩ = some (.int .i64 op) ∧ w'.cell? ⟨w.heap.size, 1, none⟩ = some (.int .i64 md) ∧ w'.cell? ⟨w.heap.size, 3, none⟩ = some (.slice ad n c)) (by kernel_rfl) ?_ (fun hHeld => ?_)
        · go_keep
        refine wpAnyH_take (i := 0) (v := ?_) rfl (by kernel_rfl) (by kernel_rfl) (by kernel_rfl) (fun _ _ _ h => h) (Or.inl ⟨by kernel_rfl, ?_⟩) hHeld ?_
        rotate_left
        · (intro wx hSw; (try dsimp only at hSw); go_simp; try with_reducible rfl)
        refine wpAnyH_take (i := 1) (v := ?_) rfl (by kernel_rfl) (by kernel_rfl) (by kernel_rfl) (fun _ _ _ h => h) (Or.inl ⟨by kernel_rfl, ?_⟩) hHeld ?_
        rotate_left
        · (intro wx hSw; (try dsimp only at hSw); go_simp; try with_reducible rfl)
        refine wpAnyH_take (i := 2) (v := ?_) rfl (by kernel_rfl) (by kernel_rfl) (by kernel_rfl) (fun _ _ _ h => h) (Or.inl ⟨by kernel_rfl, ?_⟩) hHeld ?_
        rotate_left
        · (intro wx hSw; (try dsimp only at hSw); go_simp; try with_reducible rfl)
        refine wpAnyH_take (i := 3) (v := ?_) rfl (by kernel_rfl) (by kernel_rfl) (by kernel_rfl) (fun _ _ _ h => h) (Or.inl ⟨by kernel_rfl, ?_⟩) hHeld ?_
        rotate_left
        · (intro wx hSw; (try dsimp only at hSw); go_simp; try with_reducible rfl)
        refine wpAnyH_take (i := 4) (v := ?_) rfl (by kernel_rfl) (by kernel_rfl) (by kernel_rfl) (fun _ _ _ h => h) (Or.inl ⟨by kernel_rfl, ?_⟩) hHeld ?_
        rotate_left
        · (intro wx hSw; (try dsimp only at hSw); go_simp; try with_reducible rfl)
        refine wpAnyH_take (i := 5) (v := ?_) rfl (by kernel_rfl) (by kernel_rfl) (by kernel_rfl) (fun _ _ _ h => h) (Or.inl ⟨by kernel_rfl, ?_⟩) hHeld ?_
        rotate_left
        · (intro wx hSw; (try dsimp only at hSw); go_simp; try with_reducible rfl)
        refine wpAnyH_take (i := 6) (v := ?_) rfl (by kernel_rfl) (by kernel_rfl) (by kernel_rfl) (fun _ _ _ h => h) (Or.inl ⟨by kernel_rfl, ?_⟩) hHeld ?_
        rotate_left
        · (intro wx hSw; (try dsimp only at hSw); go_simp; try with_reducible rfl)
        refine wpAnyH_take (i := 7) (v := ?_) rfl (by kernel_rfl) (by kernel_rfl) (by kernel_rfl) (fun _ _ _ h => h) (Or.inl ⟨by kernel_rfl, ?_⟩) hHeld ?_
        rotate_left
        · (intro wx hSw; (try dsimp only at hSw); go_simp; try with_reducible rfl)
        refine wpAnyH_take (i := 8) (v := ?_) rfl (by kernel_rfl) (by kernel_rfl) (by kernel_rfl) (fun _ _ _ h => h) (Or.inl ⟨by kernel_rfl, ?_⟩) hHeld ?_
        rotate_left
        · (intro wx hSw; (try dsimp only at hSw); go_simp; try with_reducible rfl)
        refine wpAnyH_take (i := 9) (v := ?_) rfl (by kernel_rfl) (by kernel_rfl) (by kernel_rfl) (fun _ _ _ h => h) (Or.inl ⟨by kernel_rfl, ?_⟩) hHeld ?_
        rotate_left
        · (intro wx hSw; (try dsimp only at hSw); go_simp; try with_reducible rfl)
        refine wpAnyH_take (i := 10) (v := ?_) rfl (by kernel_rfl) (by kernel_rfl) (by kernel_rfl) (fun _ _ _ h => h) (Or.inl ⟨by kernel_rfl, ?_⟩) hHeld ?_
        rotate_left
        · (intro wx hSw; (try dsimp only at hSw); go_simp; try with_reducible rfl)
        refine wpAnyH_take (i := 11) (v := ?_) rfl (by kernel_rfl) (by kernel_rfl) (by kernel_rfl) (fun _ _ _ h => h) (Or.inl ⟨by kernel_rfl, ?_⟩) hHeld ?_
        rotate_left
        · (intro wx hSw; (try dsimp only at hSw); go_simp; try with_reducible rfl)
        refine wpAnyH_take (i := 12) (v := ?_) rfl (by kernel_rfl) (by kernel_rfl) (by kernel_rfl) (fun _ _ _ h => h) (Or.inl ⟨by kernel_rfl, ?_⟩) hHeld ?_
        rotate_left
        · (intro wx hSw; (try dsimp only at hSw); go_simp; try with_reducible rfl)
        refine wpAnyH_take (i := 13) (v := ?_) rfl (by kernel_rfl) (by kernel_rfl) (by kernel_rfl) (fun _ _ _ h => h) (Or.inl ⟨by kernel_rfl, ?_⟩) hHeld ?_
        rotate_left
        · (intro wx hSw; (try dsimp only at hSw); go_simp; try with_reducible rfl)
        refine wpAnyH_take (i := 14) (v := ?_) rfl (by kernel_rfl) (by kernel_rfl) (by kernel_rfl) (fun _ _ _ h => h) (Or.inl ⟨by kernel_rfl, ?_⟩) hHeld ?_
        rotate_left
        · (intro wx hSw; (try dsimp only at hSw); go_simp; try with_reducible rfl)
        refine wpAnyH_take (i := 16) (v := ?_) rfl (by kernel_rfl) (by kernel_rfl) (by kernel_rfl) (fun _ _ _ h => h) (Or.inl ⟨by kernel_rfl, ?_⟩) hHeld ?_
        rotate_left
        · (intro wx hSw; (try dsimp only at hSw); go_simp; try with_reducible rfl)
        refine wpAnyH_take (i := 17) (v := ?_) rfl (by kernel_rfl) (by kernel_rfl) (by kernel_rfl) (fun _ _ _ h => h) (Or.inl ⟨by kernel_rfl, ?_⟩) hHeld ?_
        rotate_left
        · (intro wx hSw; (try dsimp only at hSw); go_simp; try with_reducible rfl)
        simp only [Act.put, List.getElem_toArray, List.getElem_cons_succ, List.getElem_cons_zero, List.setIfInBounds_toArray, List.set_cons_zero, List.set_cons_succ]
        refine wpAnyH_ready (rs := [15]) (by kernel_rfl) (by simp) ?_
        refine AllReadyH.cons rfl (fun K hK => ?_) AllReadyH.nil
        go_simp
        refine (HM.out _).mono ?_
        rintro e w2 ⟨ad2, n2, c2, rfl, hs2, hb2⟩
        have k0 : w2.cell? ⟨w.heap.size, 0, none⟩ = some (.int .i64 op) := (hb2.cell (p := ⟨w.heap.size, 0, none⟩) hwz).trans a0
        have k1 : w2.cell? ⟨w.heap.size, 1, none⟩ = some (.int .i64 md) := (hb2.cell (p := ⟨w.heap.size, 1, none⟩) hwz).trans a1
        have k3 : w2.cell? ⟨w.heap.size, 3, none⟩ = some (.slice ad n c) := (hb2.cell (p := ⟨w.heap.size, 3, none⟩) hwz).trans a3
        have HB2 : Hid (Below w.heap.size w w2) := HBA.out.trans (((Below.refl _ _).drew.trans hb2).mono HBA.out.size)
        have HS2 := Lib.hid hs2
        clear hs2 hb2
        go_simp
        clear hHeld
        refine hK.out _ _ ?_ (fun hHeld => ?_)
        · exact ⟨k0, k1, k3⟩
        clear hK K
        refine wpAnyH_ready (rs := [18]) (by kernel_rfl) (by simp) ?_
        refine AllReadyH.cons rfl (fun K hK => ?_) AllReadyH.nil
        go_simp
        refine (HH.out _ _ _ _ HS2.out).mono ?_
        rintro e _ ⟨rfl, rfl⟩
        go_simp
        clear hHeld
        refine hK.out _ _ ?_ (fun hHeld => ?_)
        · exact ⟨k0, k1, k3⟩
        clear hK K
        refine wpAnyH_take (i := 19) (v := ?_) rfl (by kernel_rfl) (by kernel_rfl) (by kernel_rfl) (fun _ _ _ h => h) (Or.inl ⟨by kernel_rfl, ?_⟩) hHeld ?_
        rotate_left
        · (intro wx hSw; (try dsimp only at hSw); go_simp; try with_reducible rfl)
        refine wpAnyH_take (i := 20) (v := ?_) rfl (by kernel_rfl) (by kernel_rfl) (by kernel_rfl) (fun _ _ _ h => h) (Or.inl ⟨by kernel_rfl, ?_⟩) hHeld ?_
        rotate_left
        · (intro wx hSw; (try dsimp only at hSw); go_simp; try with_reducible rfl)
        refine wpAnyH_take (i := 21) (v := ?_) rfl (by kernel_rfl) (by kernel_rfl) (by kernel_rfl) (fun _ _ _ h => h) (Or.inl ⟨by kernel_rfl, ?_⟩) hHeld ?_
        rotate_left
        · (intro wx hSw; (try dsimp only at hSw); go_simp; try with_reducible rfl)
        refine wpAnyH_take (i := 22) (v := ?_) rfl (by kernel_rfl) (by kernel_rfl) (by kernel_rfl) (fun _ _ _ h => h) (Or.inl ⟨by kernel_rfl, ?_⟩) hHeld ?_
        rotate_left
        · (intro wx hSw; (try dsimp only at hSw); go_simp; try with_reducible rfl)
        refine wpAnyH_take (i := 23) (v := ?_) rfl (by kernel_rfl) (by kernel_rfl) (by kernel_rfl) (fun _ _ _ h => h) (Or.inl ⟨by kernel_rfl, ?_⟩) hHeld ?_
        rotate_left
        · (intro wx hSw; (try dsimp only at hSw); go_simp; try with_reducible rfl)
        refine wpAnyH_take (i := 24) (v := ?_) rfl (by kernel_rfl) (by kernel_rfl) (by kernel_rfl) (fun _ _ _ h => h) (Or.inl ⟨by kernel_rfl, ?_⟩) hHeld ?_
        rotate_left
        · (intro wx hSw; (try dsimp only at hSw); go_simp; try with_reducible rfl)
        refine wpAnyH_take (i := 25) (v := ?_) rfl (by kernel_rfl) (by kernel_rfl) (by kernel_rfl) (fun _ _ _ h => h) (Or.inl ⟨by kernel_rfl, ?_⟩) hHeld ?_
        rotate_left
        · (intro wx hSw; (try dsimp only at hSw); go_simp; try with_reducible rfl)
        refine wpAnyH_take (i := 26) (v := ?_) rfl (by kernel_rfl) (by kernel_rfl) (by kernel_rfl) (fun _ _ _ h => h) (Or.inl ⟨by kernel_rfl, ?_⟩) hHeld ?_
        rotate_left
        · (intro wx hSw; (try dsimp only at hSw); go_simp; try with_reducible rfl)
        refine wpAnyH_take (i := 27) (v := ?_) rfl (by kernel_rfl) (by kernel_rfl) (by kernel_rfl) (fun _ _ _ h => h) (Or.inl ⟨by kernel_rfl, ?_⟩) hHeld ?_
        rotate_left
        · (intro wx hSw; (try dsimp only at hSw); go_simp; try with_reducible rfl)
        refine wpAnyH_take (i := 28) (v := ?_) rfl (by kernel_rfl) (by kernel_rfl) (by kernel_rfl) (fun _ _ _ h => h) (Or.inl ⟨by kernel_rfl, ?_⟩) hHeld ?_
        rotate_left
        · (intro wx hSw; (try dsimp only at hSw); go_simp; try with_reducible rfl)
        refine wpAnyH_take (i := 29) (v := ?_) rfl (by kernel_rfl) (by kernel_rfl) (by kernel_rfl) (fun _ _ _ h => h) (Or.inl ⟨by kernel_rfl, ?_⟩) hHeld ?_
        rotate_left
        · (intro wx hSw; (try dsimp only at hSw); go_simp; try with_reducible rfl)
        refine wpAnyH_take (i := 30) (v := ?_) rfl (by kernel_rfl) (by kernel_rfl) (by kernel_rfl) (fun _ _ _ h => h) (Or.inl ⟨by kernel_rfl, ?_⟩) hHeld ?_
        rotate_left
        · (intro wx hSw; (try dsimp only at hSw); go_simp; try with_reducible rfl)
        refine wpAnyH_take (i := 31) (v := ?_) rfl (by kernel_rfl) (by kernel_rfl) (by kernel_rfl) (fun _ _ _ h => h) (Or.inl ⟨by kernel_rfl, ?_⟩) hHeld ?_
        rotate_left
        · (intro wx hSw; (try dsimp only at hSw); go_simp; try with_reducible rfl)
        refine wpAnyH_take (i := 32) (v := ?_) rfl (by kernel_rfl) (by kernel_rfl) (by kernel_rfl) (fun _ _ _ h => h) (Or.inl ⟨by kernel_rfl, ?_⟩) hHeld ?_
        rotate_left
        · (intro wx hSw; (try dsimp only at hSw); go_simp; try with_reducible rfl)
        refine wpAnyH_take (i := 33) (v := ?_) rfl (by kernel_rfl) (by kernel_rfl) (by kernel_rfl) (fun _ _ _ h => h) (Or.inl ⟨by kernel_rfl, ?_⟩) hHeld ?_
        rotate_left
        · (intro wx hSw; (try dsimp only at hSw); go_simp; try with_reducible rfl)
        simp only [Act.put, List.getElem_toArray, List.getElem_cons_succ, List.getElem_cons_zero, List.setIfInBounds_toArray, List.set_cons_zero, List.set_cons_succ]
        refine wpAnyH_done (by kernel_rfl) ?_ _
        clear hHeld a0 a1 a3
        all_goals
          go_wp2_with fail
          go_ret
          exact ⟨by rw [HO.out]; rfl, HB2.out⟩
      have h5 : ¬ (n : Int) < 1 := by omega
      have d3 := decide_eq_false h5
      have h7 : ¬ 4 < (n : Int) := by omega
      have d4 := decide_eq_false h7
      obtain ⟨q, hq⟩ : ∃ q, properV ⟨op, md, neg, sp⟩ = q := ⟨_, rfl⟩
      rw [hq]
      have HQE := Lib.hid hq
      clear hq
      go_enter Tryz.func91, Tryz.ntmps91
      go_wp2_with fail
      refine wp_at_worldT ?_
      intro wa hwa
      have a0 : wa.cell? ⟨w.heap.size, 0, none⟩ = some (.int .i64 op) := by rw [hwa]; simp [go_sem]
      have a1 : wa.cell? ⟨w.heap.size, 1, none⟩ = some (.int .i64 md) := by rw [hwa]; simp [go_sem]
      have a3 : wa.cell? ⟨w.heap.size, 3, none⟩ = some (.slice ad n c) := by rw [hwa]; simp [go_sem]
      have HBA : Hid (Below w.heap.size w wa) := by rw [hwa]; exact (Below.refl _ _).alloc (Nat.le_refl _) _
      have hwz : w.heap.size < wa.heap.size := World.block_lt_of_cell? _ _ a0
      clear hwa
      refine wp_region_held_drew (S := fun w' => w'.cell? ⟨w.heap.size, 0, none⟩ = some (.int .i64 op) ∧ w'.cell? ⟨w.heap.size, 1, none⟩ = some (.int .i64 md) ∧ w'.cell? ⟨w.heap.size, 3, none⟩ = some (.slice ad n c)) (by kernel_rfl) ?_ (fun hHeld => ?_)
      · go_keep
      refine wpAnyH_take (i := 0) (v := ?_) rfl (by kernel_rfl) (by kernel_rfl) (by kernel_rfl) (fun _ _ _ h => h) (Or.inl ⟨by kernel_rfl, ?_⟩) hHeld ?_
      rotate_left
      · (intro wx hSw; (try dsimp only at hSw); go_simp; try with_reducible rfl)
      refine wpAnyH_take (i := 1) (v := ?_) rfl (by kernel_rfl) (by kernel_rfl) (by kernel_rfl) (fun _ _ _ h => h) (Or.inl ⟨by kernel_rfl, ?_⟩) hHeld ?_
      rotate_left
      · (intro wx hSw; (try dsimp only at hSw); go_simp; try with_reducible rfl)
      refine wpAnyH_take (i := 2) (v := ?_) rfl (by kernel_rfl) (by kernel_rfl) (by kernel_rfl) (fun _ _ _ h => h) (Or.inl ⟨by kernel_rfl, ?_⟩) hHeld ?_
      rotate_left
      · (intro wx hSw; (try dsimp only at hSw); go_simp; try with_reducible rfl)
      refine wpAnyH_take (i := 3) (v := ?_) rfl (by kernel_rfl) (by kernel_rfl) (by kernel_rfl) (fun _ _ _ h => h) (Or.inl ⟨by kernel_rfl, ?_⟩) hHeld ?_
      rotate_left
      · (intro wx hSw; (try dsimp only at hSw); go_simp; try with_reducible rfl)
      refine wpAnyH_take (i := 4) (v := ?_) rfl (by kernel_rfl) (by kernel_rfl) (by kernel_rfl) (fun _ _ _ h => h) (Or.inl ⟨by kernel_rfl, ?_⟩) hHeld ?_
      rotate_left
      · (intro wx hSw; (try dsimp only at hSw); go_simp; try with_reducible rfl)
      refine wpAnyH_take (i := 5) (v := ?_) rfl (by kernel_rfl) (by kernel_rfl) (by kernel_rfl) (fun _ _ _ h => h) (Or.inl ⟨by kernel_rfl, ?_⟩) hHeld ?_
      rotate_left
      · (intro wx hSw; (try dsimp only at hSw); go_simp; try with_reducible rfl)
      refine wpAnyH_take (i := 6) (v := ?_) rfl (by kernel_rfl) (by kernel_rfl) (by kernel_rfl) (fun _ _ _ h => h) (Or.inl ⟨by kernel_rfl, ?_⟩) hHeld ?_
      rotate_left
      · (intro wx hSw; (try dsimp only at hSw); go_simp; try with_reducible rfl)
      refine wpAnyH_take (i := 7) (v := ?_) rfl (by kernel_rfl) (by kernel_rfl) (by kernel_rfl) (fun _ _ _ h => h) (Or.inl ⟨by kernel_rfl, ?_⟩) hHeld ?_
      rotate_left
      · (intro wx hSw; (try dsimp only at hSw); go_simp; try with_reducible rfl)
      refine wpAnyH_take (i := 8) (v := ?_) rfl (by kernel_rfl) (by kernel_rfl) (by kernel_rfl) (fun _ _ _ h => h) (Or.inl ⟨by kernel_rfl, ?_⟩) hHeld ?_
      rotate_left
      · (intro wx hSw; (try dsimp only at hSw); go_simp; try with_reducible rfl)
      refine wpAnyH_take (i := 9) (v := ?_) rfl (by kernel_rfl) (by kernel_rfl) (by kernel_rfl) (fun _ _ _ h => h) (Or.inl ⟨by kernel_rfl, ?_⟩) hHeld ?_
      rotate_left
      · (intro wx hSw; (try dsimp only at hSw); go_simp; try with_reducible rfl)
      refine wpAnyH_take (i := 10) (v := ?_) rfl (by kernel_rfl) (by kernel_rfl) (by kernel_rfl) (fun _ _ _ h => h) (Or.inl ⟨by kernel_rfl, ?_⟩) hHeld ?_
      rotate_left
      · (intro wx hSw; (try dsimp only at hSw); go_simp; try with_reducible rfl)
      refine wpAnyH_take (i := 11) (v := ?_) rfl (by kernel_rfl) (by kernel_rfl) (by kernel_rfl) (fun _ _ _ h => h) (Or.inl ⟨by kernel_rfl, ?_⟩) hHeld ?_
      rotate_left
      · (intro wx hSw; (try dsimp only at hSw); go_simp; try with_reducible rfl)
      refine wpAnyH_take (i := 12) (v := ?_) rfl (by kernel_rfl) (by kernel_rfl) (by kernel_rfl) (fun _ _ _ h => h) (Or.inl ⟨by kernel_rfl, ?_⟩) hHeld ?_
      rotate_left
      · (intro wx hSw; (try dsimp only at hSw); go_simp; try with_reducible rfl)
      refine wpAnyH_take (i := 13) (v := ?_) rfl (by kernel_rfl) (by kernel_rfl) (by kernel_rfl) (fun _ _ _ h => h) (Or.inl ⟨by kernel_rfl, ?_⟩) hHeld ?_
      rotate_left
      · (intro wx hSw; (try dsimp only at hSw); go_simp; try with_reducible rfl)
      refine wpAnyH_take (i := 14) (v := ?_) rfl (by kernel_rfl) (by kernel_rfl) (by kernel_rfl) (fun _ _ _ h => h) (Or.inl ⟨by kernel_rfl, ?_⟩) hHeld ?_
      rotate_left
      · (intro wx hSw; (try dsimp only at hSw); go_simp; try with_reducible rfl)
      refine wpAnyH_take (i := 16) (v := ?_) rfl (by kernel_rfl) (by kernel_rfl) (by kernel_rfl) (fun _ _ _ h => h) (Or.inl ⟨by kernel_rfl, ?_⟩) hHeld ?_
      rotate_left
      · (intro wx hSw; (try dsimp only at hSw); go_simp; try with_reducible rfl)
      refine wpAnyH_take (i := 17) (v := ?_) rfl (by kernel_rfl) (by kernel_rfl) (by kernel_rfl) (fun _ _ _ h => h) (Or.inl ⟨by kernel_rfl, ?_⟩) hHeld ?_
      rotate_left
      · (intro wx hSw; (try dsimp only at hSw); go_simp; try with_reducible rfl)
      simp only [Act.put, List.getElem_toArray, List.getElem_cons_succ, List.getElem_cons_zero, List.setIfInBounds_toArray, List.set_cons_zero, List.set_cons_succ]
      refine wpAnyH_ready (rs := [15]) (by kernel_rfl) (by simp) ?_
      refine AllReadyH.cons rfl (fun K hK => ?_) AllReadyH.nil
      go_simp
      refine (HM.out _).mono ?_
      rintro e w2 ⟨ad2, n2, c2, rfl, hs2, hb2⟩
      have k0 : w2.cell? ⟨w.heap.size, 0, none⟩ = some (.int .i64 op) := (hb2.cell (p := ⟨w.heap.size, 0, none⟩) hwz).trans a0
      have k1 : w2.cell? ⟨w.heap.size, 1, none⟩ = some (.int .i64 md) := (hb2.cell (p := ⟨w.heap.size, 1, none⟩) hwz).trans a1
      have k3 : w2.cell? ⟨w.heap.size, 3, none⟩ = some (.slice ad n c) := (hb2.cell (p := ⟨w.heap.size, 3, none⟩) hwz).trans a3
      have HB2 : Hid (Below w.heap.size w w2) := HBA.out.trans (((Below.refl _ _).drew.trans hb2).mono HBA.out.size)
      have HS2 := Lib.hid hs2
      clear hs2 hb2
      go_simp
      clear hHeld
      refine hK.out _ _ ?_ (fun hHeld => ?_)
      · exact ⟨k0, k1, k3⟩
      clear hK K
      refine wpAnyH_ready (rs := [18]) (by kernel_rfl) (by simp) ?_
      refine AllReadyH.cons rfl (fun K hK => ?_) AllReadyH.nil
      go_simp
      refine (HH.out _ _ _ _ HS2.out).mono ?_
      rintro e _ ⟨rfl, rfl⟩
      go_simp
      clear hHeld
      refine hK.out _ _ ?_ (fun hHeld => ?_)
      · exact ⟨k0, k1, k3⟩
      clear hK K
      refine wpAnyH_take (i := 19) (v := ?_) rfl (by kernel_rfl) (by kernel_rfl) (by kernel_rfl) (fun _ _ _ h => h) (Or.inl ⟨by kernel_rfl, ?_⟩) hHeld ?_
      rotate_left
      · (intro wx hSw; (try dsimp only at hSw); go_simp; try with_reducible rfl)
      refine wpAnyH_take (i := 20) (v := ?_) rfl (by kernel_rfl) (by kernel_rfl) (by kernel_rfl) (fun _ _ _ h => h) (Or.inl ⟨by kernel_rfl, ?_⟩) hHeld ?_
      rotate_left
      · (intro wx hSw; (try dsimp only at hSw); go_simp; try with_reducible rfl)
      refine wpAnyH_take (i := 21) (v := ?_) rfl (by kernel_rfl) (by kernel_rfl) (by kernel_rfl) (fun _ _ _ h => h) (Or.inl ⟨by kernel_rfl, ?_⟩) hHeld ?_
      rotate_left
      · (intro wx hSw; (try dsimp only at hSw); go_simp; try with_reducible rfl)
      refine wpAnyH_take (i := 22) (v := ?_) rfl (by kernel_rfl) (by kernel_rfl) (by kernel_rfl) (fun _ _ _ h => h) (Or.inl ⟨by kernel_rfl, ?_⟩) hHeld ?_
      rotate_left
      · (intro wx hSw; (try dsimp only at hSw); go_simp; try with_reducible rfl)
      refine wpAnyH_take (i := 23) (v := ?_) rfl (by kernel_rfl) (by kernel_rfl) (by kernel_rfl) (fun _ _ _ h => h) (Or.inl ⟨by kernel_rfl, ?_⟩) hHeld ?_
      rotate_left
      · (intro wx hSw; (try dsimp only at hSw); go_simp; try with_reducible rfl)
      refine wpAnyH_take (i := 24) (v := ?_) rfl (by kernel_rfl) (by kernel_rfl) (by kernel_rfl) (fun _ _ _ h => h) (Or.inl ⟨by kernel_rfl, ?_⟩) hHeld ?_
      rotate_left
      · (intro wx hSw; (try dsimp only at hSw); go_simp; try with_reducible rfl)
      refine wpAnyH_take (i := 25) (v := ?_) rfl (by kernel_rfl) (by kernel_rfl) (by kernel_rfl) (fun _ _ _ h => h) (Or.inl ⟨by kernel_rfl, ?_⟩) hHeld ?_
      rotate_left
      · (intro wx hSw; (try dsimp only at hSw); go_simp; try with_reducible rfl)
      refine wpAnyH_take (i := 26) (v := ?_) rfl (by kernel_rfl) (by kernel_rfl) (by kernel_rfl) (fun _ _ _ h => h) (Or.inl ⟨by kernel_rfl, ?_⟩) hHeld ?_
      rotate_left
      · (intro wx hSw; (try dsimp only at hSw); go_simp; try with_reducible rfl)
      refine wpAnyH_take (i := 27) (v := ?_) rfl (by kernel_rfl) (by kernel_rfl) (by kernel_rfl) (fun _ _ _ h => h) (Or.inl ⟨by kernel_rfl, ?_⟩) hHeld ?_
      rotate_left
      · (intro wx hSw; (try dsimp only at hSw); go_simp; try with_reducible rfl)
      refine wpAnyH_take (i := 28) (v := ?_) rfl (by kernel_rfl) (by kernel_rfl) (by kernel_rfl) (fun _ _ _ h => h) (Or.inl ⟨by kernel_rfl, ?_⟩) hHeld ?_
      rotate_left
      · (intro wx hSw; (try dsimp only at hSw); go_simp; try with_reducible rfl)
      refine wpAnyH_take (i := 29) (v := ?_) rfl (by kernel_rfl) (by kernel_rfl) (by kernel_rfl) (fun _ _ _ h => h) (Or.inl ⟨by kernel_rfl, ?_⟩) hHeld ?_
      rotate_left
      · (intro wx hSw; (try dsimp only at hSw); go_simp; try with_reducible rfl)
      refine wpAnyH_take (i := 30) (v := ?_) rfl (by kernel_rfl) (by kernel_rfl) (by kernel_rfl) (fun _ _ _ h => h) (Or.inl ⟨by kernel_rfl, ?_⟩) hHeld ?_
      rotate_left
      · (intro wx hSw; (try dsimp only at hSw); go_simp; try with_reducible rfl)
      refine wpAnyH_take (i := 31) (v := ?_) rfl (by kernel_rfl) (by kernel_rfl) (by kernel_rfl) (fun _ _ _ h => h) (Or.inl ⟨by kernel_rfl, ?_⟩) hHeld ?_
      rotate_left
      · (intro wx hSw; (try dsimp only at hSw); go_simp; try with_reducible rfl)
      refine wpAnyH_take (i := 32) (v := ?_) rfl (by kernel_rfl) (by kernel_rfl) (by kernel_rfl) (fun _ _ _ h => h) (Or.inl ⟨by kernel_rfl, ?_⟩) hHeld ?_
      rotate_left
      · (intro wx hSw; (try dsimp only at hSw); go_simp; try with_reducible rfl)
      refine wpAnyH_take (i := 33) (v := ?_) rfl (by kernel_rfl) (by kernel_rfl) (by kernel_rfl) (fun _ _ _ h => h) (Or.inl ⟨by kernel_rfl, ?_⟩) hHeld ?_
      rotate_left
      · (intro wx hSw; (try dsimp only at hSw); go_simp; try with_reducible rfl)
      simp only [Act.put, List.getElem_toArray, List.getElem_cons_succ, List.getElem_cons_zero, List.setIfInBounds_toArray, List.set_cons_zero, List.set_cons_succ]
      refine wpAnyH_done (by kernel_rfl) ?_ _
      clear hHeld a0 a1 a3
      all_goals
        go_wp2_with fail
        refine wp_at_worldT ?_
        intro wb hwb
        have hb0 : wb.cell? ⟨w.heap.size, 0, none⟩ = some (.int .i64 op) := by rw [hwb]; exact k0
        have hb3 : wb.cell? ⟨w.heap.size, 3, none⟩ = some (.slice ad n c) := by rw [hwb]; exact k3
        have HBW : Hid (Below w.heap.size w wb) := by rw [hwb]; exact HB2.out
        have hwz : w.heap.size < wb.heap.size := World.block_lt_of_cell? _ _ hb0
        clear hwb
        have B0 := Lib.hid hb0
        have B3 := Lib.hid hb3
        have HRB := Lib.hid (HR.out.below HBW.out)
        go_loopw [3] (fun v wr => ∃ k : Nat, v = .int .i64 (k : Int) ∧ k ≤ n ∧ (∀ i, i < k → spanOk op (sp.getD i (0, 0)) = true) ∧ Below wb.heap.size wb wr) (fun v _ => n - (intOf v).toNat)
        case atStart => exact ⟨0, rfl, Nat.zero_le _, fun i hi => absurd hi (Nat.not_lt_zero _), Below.refl _ _⟩
        case round =>
          obtain ⟨k, rfl, hkn, hal, hbl⟩ := hrel
          have HAL := Lib.hid hal
          have HBL := Lib.hid hbl
          have hzr := hbl.size
          have hwr : w.heap.size < wr.heap.size := by omega
          have HWR := Lib.hid (HBW.out.trans (hbl.mono HBW.out.size))
          have r0 : wr.cell? ⟨w.heap.size, 0, none⟩ = some (.int .i64 op) := (hbl.cell (p := ⟨w.heap.size, 0, none⟩) hwz).trans B0.out
          have r3 : wr.cell? ⟨w.heap.size, 3, none⟩ = some (.slice ad n c) := (hbl.cell (p := ⟨w.heap.size, 3, none⟩) hwz).trans B3.out
          clear hal hbl
          by_cases hlt : k < n
          · have hrr := HRB.out.below HBL.out
            have hix := fun W => hrr.ix 92 152 Tryz.underlying92 (by kernel_rfl) (by omega) hlt c W
            have c0 : wr.cell? ⟨b, off + k * 2, none⟩ = some (f k 0) := hrr.cell k 0 hlt (by omega)
            have c1 : wr.cell? ⟨b, off + k * 2 + 1, none⟩ = some (f k 1) := hrr.cell k 1 hlt (by omega)
            obtain ⟨f0, f1⟩ := RowsOf.get HF.out (i := k) (by rw [HN.out]; exact hlt) (0, 0)
            rw [f0] at c0
            rw [f1] at c1
            have HNO : Hid (spanOk op (sp.getD k (0, 0)) = false → q = false) := fun h => HQE.out.symm.trans (properV_no (by simp only; rw [HN.out]; exact hlt) h)
            have HYES : Hid (spanOk op (sp.getD k (0, 0)) = true → ∀ i, i < k + 1 → spanOk op (sp.getD i (0, 0)) = true) := fun h i hi => by
              by_cases e : i = k
              · subst e; exact h
              · exact HAL.out i (by omega)
            clear hrr f0 f1
            generalize sp.getD k (0, 0) = s at *
            obtain ⟨a, z⟩ := s
            simp only at c0 c1
            by_cases q1 : a < 0
            · have HQ := Lib.hid (HNO.out (spanOk_no1 (by assumption)))
              clear HNO HYES
              generalize greatV op = g at *
              have d1 := decide_eq_true q1
              go_wp2_with fail
              go_quiet ((go_at_call 142; exact HG.out _ _))
              all_goals
                go_wp2_with fail
                go_ret
                exact ⟨by rw [HQ.out]; rfl, by show Bel w _; repeat (first | exact Bel.refl _ | exact HWR.out | refine Bel.drew ?_ | refine Bel.drewN ?_ _ | refine Bel.alloc ?_ _ | refine Bel.ext ?_ _)⟩
            by_cases q2 : z < a
            · have HQ := Lib.hid (HNO.out (spanOk_no2 (by assumption)))
              clear HNO HYES
              generalize greatV op = g at *
              have d1 := decide_eq_false q1
              have d2 := decide_eq_true q2
              go_wp2_with fail
              go_quiet ((go_at_call 142; exact HG.out _ _))
              all_goals
                go_wp2_with fail
                go_ret
                exact ⟨by rw [HQ.out]; rfl, by show Bel w _; repeat (first | exact Bel.refl _ | exact HWR.out | refine Bel.drew ?_ | refine Bel.drewN ?_ _ | refine Bel.alloc ?_ _ | refine Bel.ext ?_ _)⟩
            by_cases q3 : greatV op < z
            · have HQ := Lib.hid (HNO.out (spanOk_no3 (by assumption)))
              clear HNO HYES
              generalize greatV op = g at *
              have d1 := decide_eq_false q1
              have d2 := decide_eq_false q2
              have d3 := decide_eq_true q3
              go_wp2_with fail
              go_quiet ((go_at_call 142; exact HG.out _ _))
              all_goals
                go_wp2_with fail
                go_ret
                exact ⟨by rw [HQ.out]; rfl, by show Bel w _; repeat (first | exact Bel.refl _ | exact HWR.out | refine Bel.drew ?_ | refine Bel.drewN ?_ _ | refine Bel.alloc ?_ _ | refine Bel.ext ?_ _)⟩
            have HQ := Lib.hid (HYES.out (spanOk_yes q1 q2 q3))
            clear HNO HYES
            generalize greatV op = g at *
            have d1 := decide_eq_false q1
            have d2 := decide_eq_false q2
            have d3 := decide_eq_false q3
            go_wp2_with fail
            go_quiet ((go_at_call 142; exact HG.out _ _))
            all_goals
              go_wp2_with fail
              go_roundw
              case rel => exact ⟨k + 1, by go_num, by omega, HQ.out, HBL.out.trans (Below.mono (w := wr) (by show Bel wr _; repeat (first | exact Bel.refl _ | refine Bel.drew ?_ | refine Bel.drewN ?_ _ | refine Bel.alloc ?_ _ | refine Bel.ext ?_ _)) hzr)⟩
              case measure => simp [intOf]; omega
          · obtain rfl : k = n := by omega
            have HO : Hid (q = true) := HQE.out.symm.trans (properV_yes HOP.out (.inr HPT.out) (by simp only; rw [HN.out]; omega) (by simp only; rw [HN.out]; exact HAL.out))
            go_wp2_with fail
            go_ret
            exact ⟨by rw [HO.out]; rfl, HWR.out⟩
end Go.Proofs.YtmleeodfmmpdgaaGreatDoor
