/- Walks over rules in the reference: whether they are valid. -/
import Derived.Test.YtadhblppeaamlaaGreatDoorQ11
import Derived.Test.YtadhblppeaamlaaGreatDoorQ12
namespace Go.Proofs.YtadhblppeaamlaaGreatDoor
open Go.RowKit
attribute [local go_sem] Ext.cell Ext.frozen
attribute [local go_sem ↓] Go.wp_at_zero Go.wp_at_succ

set_option maxRecDepth 20000 in
set_option maxHeartbeats 4000000 in
theorem rvalidr_any (v : Value) (rs : List (ByteArray × List (List Rel))) (w : World) (h : RulesAt w v rs) (hl : ∀ r ∈ rs, r.2.length ≤ 30) : Calls Tryz.prog 31 #[v] w fun e w' => e = .returned (.bool (validR rs)) ∧ Below w.heap.size w w' := by
  obtain ⟨ad, c, f, b, off, rfl, hr, _, _, _, hf⟩ := h
  obtain ⟨n, hn⟩ : ∃ n, rs.length = n := ⟨_, rfl⟩
  rw [hn] at hr ⊢
  have hnm := hr.max
  have HN := Lib.hid hn
  have HR := Lib.hid hr
  have HF := Lib.hid hf
  have HL := Lib.hid hl
  have HCL := Lib.hid (fun W => classes_any W)
  clear hr hf hn hl
  obtain ⟨q, hq⟩ : ∃ q, validR rs = q := ⟨_, rfl⟩
  rw [hq]
  have HQ := Lib.hid hq
  clear hq
  go_enter Tryz.func31, Tryz.ntmps31
  go_wp2_with fail
  go_loopw [3] (fun v wr => ∃ k : Nat, v = .int .i64 (k : Int) ∧ k ≤ n ∧ (∀ i, i < k → ruleOk rs i = true) ∧ Below w.heap.size w wr) (fun v _ => n - (intOf v).toNat)
  case atStart => exact ⟨0, rfl, Nat.zero_le _, fun i hi => absurd hi (Nat.not_lt_zero _), Below.refl _ _⟩
  case round =>
    obtain ⟨wo, rfl⟩ : ∃ wo : World, wo = wr := ⟨_, rfl⟩
    obtain ⟨k, rfl, hkn, hal, hbl⟩ := hrel
    have HAL := Lib.hid hal
    have HBL := Lib.hid hbl
    have hzr := hbl.size
    clear hal hbl
    by_cases hlt : k < n
    · have hrr := HR.out.below HBL.out
      have hix := fun W => hrr.ix 22 80 Tryz.underlying22 (by kernel_rfl) (by omega) hlt c W
      have c0 : wo.cell? ⟨b, off + k * 2, none⟩ = some (f k 0) := hrr.cell k 0 hlt (by omega)
      have c1 : wo.cell? ⟨b, off + k * 2 + 1, none⟩ = some (f k 1) := hrr.cell k 1 hlt (by omega)
      have hk0 : k < rs.length := by rw [HN.out]; exact hlt
      obtain ⟨f0, f1⟩ := RowsOf.get HF.out hk0 (.empty, [])
      rw [f0] at c0
      have HC : Hid (∀ W, Below wo.heap.size wo W → Calls Tryz.prog 58 #[f k 1] W fun e w' => e = .returned (.bool (validC (rs.getD k (.empty, [])).2)) ∧ Below W.heap.size W w') := fun W hb => rcvalid_any (f k 1) _ W ((f1.below HBL.out).below hb) (HL.out _ (getD_mem rs k _ hk0))
      obtain ⟨ad3, c3, _, _, _, hv3, _, _, _, _, _⟩ := id f1
      rw [hv3] at c1
      rw [Hid, hv3] at HC
      replace HC := Lib.hid HC
      have HEQ : Hid (ruleOk rs k = (knownC (rs.getD k (.empty, [])).1 && validC (rs.getD k (.empty, [])).2 && !(anyP (fun j => (rs.getD j (.empty, [])).1 == (rs.getD k (.empty, [])).1) k))) := ruleOk_eq rs k hk0
      have HRO : Hid (ruleOk rs k = false → q = false) := fun h => HQ.out.symm.trans (validR_no hk0 h)
      have HYES : Hid (ruleOk rs k = true → ∀ i, i < k + 1 → ruleOk rs i = true) := fun h i hi => by
        by_cases e : i = k
        · subst e; exact h
        · exact HAL.out i (by omega)
      clear hrr f0 f1 hv3 hk0
      generalize (rs.getD k (.empty, [])).2.length = m3 at *
      generalize rs.getD k (.empty, []) = r at *
      obtain ⟨cl, cd⟩ := r
      simp only at c0 HC HEQ
      have hbz : b < wo.heap.size := World.block_lt_of_cell? _ _ c0
      have C0 := Lib.hid c0
      have C1 := Lib.hid c1
      have HH : Hid (∀ (ad2 : Option Addr) (n2 c2 : Nat) (w1 : World), Sl w1 ad2 n2 (strs classL) → Calls Tryz.prog 56 #[.slice ad2 n2 c2, .string cl] w1 fun e w' => e = .returned (.bool (knownC cl)) ∧ w1 = w') := fun ad2 n2 c2 w1 hs => rhas_str ad2 n2 c2 classL cl w1 hs
      cases hk : knownC cl with
      | false =>
        have HO := Lib.hid (HRO.out (by rw [HEQ.out, hk]; rfl))
        rw [Hid, hk] at HH
        replace HH := Lib.hid HH
        clear hk HEQ HRO HYES HC
        go_wp2_with fail
        refine wp_region_held_drew (S := fun w' => w'.cell? ⟨b, off + k * 2, none⟩ = some (.string cl) ∧ w'.cell? ⟨b, off + k * 2 + 1, none⟩ = some (.slice ad3 m3 c3)) (by kernel_rfl) ?_ (fun hHeld => ?_)
        · go_keep
        refine wpAnyH_take (i := 1) (v := ?_) rfl (by kernel_rfl) (by kernel_rfl) (by kernel_rfl) (fun _ _ _ h => h) (Or.inl ⟨by kernel_rfl, ?_⟩) hHeld ?_
        rotate_left
        · (intro wx hSw; (try dsimp only at hSw); go_simp; try with_reducible rfl)
        simp only [Act.put, List.getElem_toArray, List.getElem_cons_succ, List.getElem_cons_zero, List.setIfInBounds_toArray, List.set_cons_zero, List.set_cons_succ]
        refine wpAnyH_take (i := 2) (v := ?_) rfl (by kernel_rfl) (by kernel_rfl) (by kernel_rfl) (fun _ _ _ h => h) (Or.inl ⟨by kernel_rfl, ?_⟩) hHeld ?_
        rotate_left
        · (intro wx hSw; (try dsimp only at hSw); go_simp; try with_reducible rfl)
        simp only [Act.put, List.getElem_toArray, List.getElem_cons_succ, List.getElem_cons_zero, List.setIfInBounds_toArray, List.set_cons_zero, List.set_cons_succ]
        refine wpAnyH_take (i := 3) (v := ?_) rfl (by kernel_rfl) (by kernel_rfl) (by kernel_rfl) (fun _ _ _ h => h) (Or.inl ⟨by kernel_rfl, ?_⟩) hHeld ?_
        rotate_left
        · (intro wx hSw; (try dsimp only at hSw); go_simp; try with_reducible rfl)
        simp only [Act.put, List.getElem_toArray, List.getElem_cons_succ, List.getElem_cons_zero, List.setIfInBounds_toArray, List.set_cons_zero, List.set_cons_succ]
        refine wpAnyH_take (i := 4) (v := ?_) rfl (by kernel_rfl) (by kernel_rfl) (by kernel_rfl) (fun _ _ _ h => h) (Or.inl ⟨by kernel_rfl, ?_⟩) hHeld ?_
        rotate_left
        · (intro wx hSw; (try dsimp only at hSw); go_simp; try with_reducible rfl)
        simp only [Act.put, List.getElem_toArray, List.getElem_cons_succ, List.getElem_cons_zero, List.setIfInBounds_toArray, List.set_cons_zero, List.set_cons_succ]
        refine wpAnyH_take (i := 5) (v := ?_) rfl (by kernel_rfl) (by kernel_rfl) (by kernel_rfl) (fun _ _ _ h => h) (Or.inl ⟨by kernel_rfl, ?_⟩) hHeld ?_
        rotate_left
        · (intro wx hSw; (try dsimp only at hSw); go_simp; try with_reducible rfl)
        simp only [Act.put, List.getElem_toArray, List.getElem_cons_succ, List.getElem_cons_zero, List.setIfInBounds_toArray, List.set_cons_zero, List.set_cons_succ]
        refine wpAnyH_ready (rs := [0]) (by kernel_rfl) (by simp) ?_
        refine AllReadyH.cons rfl (fun K hK => ?_) AllReadyH.nil
        go_simp
        refine (HCL.out _).mono ?_
        rintro e w2 ⟨ad2, n2, c2, rfl, hs2, hb2⟩
        have k0 : w2.cell? ⟨b, off + k * 2, none⟩ = some (.string cl) := (hb2.cell (p := ⟨b, off + k * 2, none⟩) hbz).trans C0.out
        have k1 : w2.cell? ⟨b, off + k * 2 + 1, none⟩ = some (.slice ad3 m3 c3) := (hb2.cell (p := ⟨b, off + k * 2 + 1, none⟩) hbz).trans C1.out
        have HB2 : Hid (Below w.heap.size w w2) := HBL.out.trans (((Below.refl _ _).drew.trans hb2).mono hzr)
        have HW2 : Hid (Below wo.heap.size wo w2) := (Below.refl _ _).drew.trans hb2
        have HS2 := Lib.hid hs2
        clear hs2 hb2
        go_simp
        clear hHeld
        refine hK.out _ _ ?_ (fun hHeld => ?_)
        · exact ⟨k0, k1⟩
        clear hK K
        refine wpAnyH_ready (rs := [6]) (by kernel_rfl) (by simp) ?_
        refine AllReadyH.cons rfl (fun K hK => ?_) AllReadyH.nil
        go_simp
        refine (HH.out _ _ _ _ HS2.out).mono ?_
        rintro e _ ⟨rfl, rfl⟩
        go_simp
        clear hHeld
        refine hK.out _ _ ?_ (fun hHeld => ?_)
        · exact ⟨k0, k1⟩
        clear hK K
        refine wpAnyH_take (i := 7) (v := ?_) rfl (by kernel_rfl) (by kernel_rfl) (by kernel_rfl) (fun _ _ _ h => h) (Or.inl ⟨by kernel_rfl, ?_⟩) hHeld ?_
        rotate_left
        · (intro wx hSw; (try dsimp only at hSw); go_simp; try with_reducible rfl)
        simp only [Act.put, List.getElem_toArray, List.getElem_cons_succ, List.getElem_cons_zero, List.setIfInBounds_toArray, List.set_cons_zero, List.set_cons_succ]
        refine wpAnyH_take (i := 8) (v := ?_) rfl (by kernel_rfl) (by kernel_rfl) (by kernel_rfl) (fun _ _ _ h => h) (Or.inl ⟨by kernel_rfl, ?_⟩) hHeld ?_
        rotate_left
        · (intro wx hSw; (try dsimp only at hSw); go_simp; try with_reducible rfl)
        simp only [Act.put, List.getElem_toArray, List.getElem_cons_succ, List.getElem_cons_zero, List.setIfInBounds_toArray, List.set_cons_zero, List.set_cons_succ]
        refine wpAnyH_take (i := 9) rfl (by kernel_rfl) (by kernel_rfl) (by kernel_rfl) (fun _ _ _ h => h) (Or.inr ⟨by kernel_rfl, rfl⟩) hHeld ?_
        simp only [Act.put, List.getElem_toArray, List.getElem_cons_succ, List.getElem_cons_zero, List.setIfInBounds_toArray, List.set_cons_zero, List.set_cons_succ]
        refine wpAnyH_take (i := 10) rfl (by kernel_rfl) (by kernel_rfl) (by kernel_rfl) (fun _ _ _ h => h) (Or.inr ⟨by kernel_rfl, rfl⟩) hHeld ?_
        simp only [Act.put, List.getElem_toArray, List.getElem_cons_succ, List.getElem_cons_zero, List.setIfInBounds_toArray, List.set_cons_zero, List.set_cons_succ]
        refine wpAnyH_take (i := 11) rfl (by kernel_rfl) (by kernel_rfl) (by kernel_rfl) (fun _ _ _ h => h) (Or.inr ⟨by kernel_rfl, rfl⟩) hHeld ?_
        simp only [Act.put, List.getElem_toArray, List.getElem_cons_succ, List.getElem_cons_zero, List.setIfInBounds_toArray, List.set_cons_zero, List.set_cons_succ]
        refine wpAnyH_take (i := 12) rfl (by kernel_rfl) (by kernel_rfl) (by kernel_rfl) (fun _ _ _ h => h) (Or.inr ⟨by kernel_rfl, rfl⟩) hHeld ?_
        simp only [Act.put, List.getElem_toArray, List.getElem_cons_succ, List.getElem_cons_zero, List.setIfInBounds_toArray, List.set_cons_zero, List.set_cons_succ]
        refine wpAnyH_take (i := 13) rfl (by kernel_rfl) (by kernel_rfl) (by kernel_rfl) (fun _ _ _ h => h) (Or.inr ⟨by kernel_rfl, rfl⟩) hHeld ?_
        simp only [Act.put, List.getElem_toArray, List.getElem_cons_succ, List.getElem_cons_zero, List.setIfInBounds_toArray, List.set_cons_zero, List.set_cons_succ]
        refine wpAnyH_take (i := 14) rfl (by kernel_rfl) (by kernel_rfl) (by kernel_rfl) (fun _ _ _ h => h) (Or.inr ⟨by kernel_rfl, rfl⟩) hHeld ?_
        simp only [Act.put, List.getElem_toArray, List.getElem_cons_succ, List.getElem_cons_zero, List.setIfInBounds_toArray, List.set_cons_zero, List.set_cons_succ]
        refine wpAnyH_take (i := 15) rfl (by kernel_rfl) (by kernel_rfl) (by kernel_rfl) (fun _ _ _ h => h) (Or.inr ⟨by kernel_rfl, rfl⟩) hHeld ?_
        simp only [Act.put, List.getElem_toArray, List.getElem_cons_succ, List.getElem_cons_zero, List.setIfInBounds_toArray, List.set_cons_zero, List.set_cons_succ]
        refine wpAnyH_take (i := 16) (v := ?_) rfl (by kernel_rfl) (by kernel_rfl) (by kernel_rfl) (fun _ _ _ h => h) (Or.inl ⟨by kernel_rfl, ?_⟩) hHeld ?_
        rotate_left
        · (intro wx hSw; (try dsimp only at hSw); go_simp; try with_reducible rfl)
        simp only [Act.put, List.getElem_toArray, List.getElem_cons_succ, List.getElem_cons_zero, List.setIfInBounds_toArray, List.set_cons_zero, List.set_cons_succ]
        refine wpAnyH_done (by kernel_rfl) ?_ _
        clear hHeld
        go_wp2_with fail
        go_ret
        exact ⟨by rw [HO.out]; rfl, HB2.out⟩
      | true =>
        rw [Hid, hk] at HH
        replace HH := Lib.hid HH
        cases hv : validC cd with
        | false =>
          have HO := Lib.hid (HRO.out (by rw [HEQ.out, hk, hv]; rfl))
          rw [Hid, hv] at HC
          replace HC := Lib.hid HC
          clear hk hv HEQ HRO HYES
          go_wp2_with fail
          refine wp_region_held_drew (S := fun w' => w'.cell? ⟨b, off + k * 2, none⟩ = some (.string cl) ∧ w'.cell? ⟨b, off + k * 2 + 1, none⟩ = some (.slice ad3 m3 c3)) (by kernel_rfl) ?_ (fun hHeld => ?_)
          · go_keep
          refine wpAnyH_take (i := 1) (v := ?_) rfl (by kernel_rfl) (by kernel_rfl) (by kernel_rfl) (fun _ _ _ h => h) (Or.inl ⟨by kernel_rfl, ?_⟩) hHeld ?_
          rotate_left
          · (intro wx hSw; (try dsimp only at hSw); go_simp; try with_reducible rfl)
          simp only [Act.put, List.getElem_toArray, List.getElem_cons_succ, List.getElem_cons_zero, List.setIfInBounds_toArray, List.set_cons_zero, List.set_cons_succ]
          refine wpAnyH_take (i := 2) (v := ?_) rfl (by kernel_rfl) (by kernel_rfl) (by kernel_rfl) (fun _ _ _ h => h) (Or.inl ⟨by kernel_rfl, ?_⟩) hHeld ?_
          rotate_left
          · (intro wx hSw; (try dsimp only at hSw); go_simp; try with_reducible rfl)
          simp only [Act.put, List.getElem_toArray, List.getElem_cons_succ, List.getElem_cons_zero, List.setIfInBounds_toArray, List.set_cons_zero, List.set_cons_succ]
          refine wpAnyH_take (i := 3) (v := ?_) rfl (by kernel_rfl) (by kernel_rfl) (by kernel_rfl) (fun _ _ _ h => h) (Or.inl ⟨by kernel_rfl, ?_⟩) hHeld ?_
          rotate_left
          · (intro wx hSw; (try dsimp only at hSw); go_simp; try with_reducible rfl)
          simp only [Act.put, List.getElem_toArray, List.getElem_cons_succ, List.getElem_cons_zero, List.setIfInBounds_toArray, List.set_cons_zero, List.set_cons_succ]
          refine wpAnyH_take (i := 4) (v := ?_) rfl (by kernel_rfl) (by kernel_rfl) (by kernel_rfl) (fun _ _ _ h => h) (Or.inl ⟨by kernel_rfl, ?_⟩) hHeld ?_
          rotate_left
          · (intro wx hSw; (try dsimp only at hSw); go_simp; try with_reducible rfl)
          simp only [Act.put, List.getElem_toArray, List.getElem_cons_succ, List.getElem_cons_zero, List.setIfInBounds_toArray, List.set_cons_zero, List.set_cons_succ]
          refine wpAnyH_take (i := 5) (v := ?_) rfl (by kernel_rfl) (by kernel_rfl) (by kernel_rfl) (fun _ _ _ h => h) (Or.inl ⟨by kernel_rfl, ?_⟩) hHeld ?_
          rotate_left
          · (intro wx hSw; (try dsimp only at hSw); go_simp; try with_reducible rfl)
          simp only [Act.put, List.getElem_toArray, List.getElem_cons_succ, List.getElem_cons_zero, List.setIfInBounds_toArray, List.set_cons_zero, List.set_cons_succ]
          refine wpAnyH_ready (rs := [0]) (by kernel_rfl) (by simp) ?_
          refine AllReadyH.cons rfl (fun K hK => ?_) AllReadyH.nil
          go_simp
          refine (HCL.out _).mono ?_
          rintro e w2 ⟨ad2, n2, c2, rfl, hs2, hb2⟩
          have k0 : w2.cell? ⟨b, off + k * 2, none⟩ = some (.string cl) := (hb2.cell (p := ⟨b, off + k * 2, none⟩) hbz).trans C0.out
          have k1 : w2.cell? ⟨b, off + k * 2 + 1, none⟩ = some (.slice ad3 m3 c3) := (hb2.cell (p := ⟨b, off + k * 2 + 1, none⟩) hbz).trans C1.out
          have HB2 : Hid (Below w.heap.size w w2) := HBL.out.trans (((Below.refl _ _).drew.trans hb2).mono hzr)
          have HW2 : Hid (Below wo.heap.size wo w2) := (Below.refl _ _).drew.trans hb2
          have HS2 := Lib.hid hs2
          clear hs2 hb2
          go_simp
          clear hHeld
          refine hK.out _ _ ?_ (fun hHeld => ?_)
          · exact ⟨k0, k1⟩
          clear hK K
          refine wpAnyH_ready (rs := [6]) (by kernel_rfl) (by simp) ?_
          refine AllReadyH.cons rfl (fun K hK => ?_) AllReadyH.nil
          go_simp
          refine (HH.out _ _ _ _ HS2.out).mono ?_
          rintro e _ ⟨rfl, rfl⟩
          go_simp
          clear hHeld
          refine hK.out _ _ ?_ (fun hHeld => ?_)
          · exact ⟨k0, k1⟩
          clear hK K
          refine wpAnyH_take (i := 7) (v := ?_) rfl (by kernel_rfl) (by kernel_rfl) (by kernel_rfl) (fun _ _ _ h => h) (Or.inl ⟨by kernel_rfl, ?_⟩) hHeld ?_
          rotate_left
          · (intro wx hSw; (try dsimp only at hSw); go_simp; try with_reducible rfl)
          simp only [Act.put, List.getElem_toArray, List.getElem_cons_succ, List.getElem_cons_zero, List.setIfInBounds_toArray, List.set_cons_zero, List.set_cons_succ]
          refine wpAnyH_take (i := 8) (v := ?_) rfl (by kernel_rfl) (by kernel_rfl) (by kernel_rfl) (fun _ _ _ h => h) (Or.inl ⟨by kernel_rfl, ?_⟩) hHeld ?_
          rotate_left
          · (intro wx hSw; (try dsimp only at hSw); go_simp; try with_reducible rfl)
          simp only [Act.put, List.getElem_toArray, List.getElem_cons_succ, List.getElem_cons_zero, List.setIfInBounds_toArray, List.set_cons_zero, List.set_cons_succ]
          refine wpAnyH_take (i := 9) (v := ?_) rfl (by kernel_rfl) (by kernel_rfl) (by kernel_rfl) (fun _ _ _ h => h) (Or.inl ⟨by kernel_rfl, ?_⟩) hHeld ?_
          rotate_left
          · (intro wx hSw; (try dsimp only at hSw); go_simp; try with_reducible rfl)
          simp only [Act.put, List.getElem_toArray, List.getElem_cons_succ, List.getElem_cons_zero, List.setIfInBounds_toArray, List.set_cons_zero, List.set_cons_succ]
          refine wpAnyH_take (i := 10) (v := ?_) rfl (by kernel_rfl) (by kernel_rfl) (by kernel_rfl) (fun _ _ _ h => h) (Or.inl ⟨by kernel_rfl, ?_⟩) hHeld ?_
          rotate_left
          · (intro wx hSw; (try dsimp only at hSw); go_simp; try with_reducible rfl)
          simp only [Act.put, List.getElem_toArray, List.getElem_cons_succ, List.getElem_cons_zero, List.setIfInBounds_toArray, List.set_cons_zero, List.set_cons_succ]
          refine wpAnyH_take (i := 11) (v := ?_) rfl (by kernel_rfl) (by kernel_rfl) (by kernel_rfl) (fun _ _ _ h => h) (Or.inl ⟨by kernel_rfl, ?_⟩) hHeld ?_
          rotate_left
          · (intro wx hSw; (try dsimp only at hSw); go_simp; try with_reducible rfl)
          simp only [Act.put, List.getElem_toArray, List.getElem_cons_succ, List.getElem_cons_zero, List.setIfInBounds_toArray, List.set_cons_zero, List.set_cons_succ]
          refine wpAnyH_take (i := 12) (v := ?_) rfl (by kernel_rfl) (by kernel_rfl) (by kernel_rfl) (fun _ _ _ h => h) (Or.inl ⟨by kernel_rfl, ?_⟩) hHeld ?_
          rotate_left
          · (intro wx hSw; (try dsimp only at hSw); go_simp; try with_reducible rfl)
          simp only [Act.put, List.getElem_toArray, List.getElem_cons_succ, List.getElem_cons_zero, List.setIfInBounds_toArray, List.set_cons_zero, List.set_cons_succ]
          refine wpAnyH_take (i := 13) (v := ?_) rfl (by kernel_rfl) (by kernel_rfl) (by kernel_rfl) (fun _ _ _ h => h) (Or.inl ⟨by kernel_rfl, ?_⟩) hHeld ?_
          rotate_left
          · (intro wx hSw; (try dsimp only at hSw); go_simp; try with_reducible rfl)
          simp only [Act.put, List.getElem_toArray, List.getElem_cons_succ, List.getElem_cons_zero, List.setIfInBounds_toArray, List.set_cons_zero, List.set_cons_succ]
          refine wpAnyH_ready (rs := [14]) (by kernel_rfl) (by simp) ?_
          refine AllReadyH.cons rfl (fun K hK => ?_) AllReadyH.nil
          go_simp
          refine (HC.out _ HW2.out).mono ?_
          rintro e w3 ⟨rfl, hb3⟩
          have HB3 : Hid (Below w.heap.size w w3) := HB2.out.trans (hb3.mono HB2.out.size)
          have j0 : w3.cell? ⟨b, off + k * 2, none⟩ = some (.string cl) := (hb3.cell (p := ⟨b, off + k * 2, none⟩) (Nat.lt_of_lt_of_le hbz HW2.out.size)).trans k0
          have j1 : w3.cell? ⟨b, off + k * 2 + 1, none⟩ = some (.slice ad3 m3 c3) := (hb3.cell (p := ⟨b, off + k * 2 + 1, none⟩) (Nat.lt_of_lt_of_le hbz HW2.out.size)).trans k1
          have HZ3 : Hid (wo.heap.size ≤ w3.heap.size) := Nat.le_trans HW2.out.size hb3.size
          clear hb3
          go_simp
          clear hHeld
          refine hK.out _ _ ?_ (fun hHeld => ?_)
          · exact ⟨j0, j1⟩
          clear hK K
          refine wpAnyH_take (i := 15) (v := ?_) rfl (by kernel_rfl) (by kernel_rfl) (by kernel_rfl) (fun _ _ _ h => h) (Or.inl ⟨by kernel_rfl, ?_⟩) hHeld ?_
          rotate_left
          · (intro wx hSw; (try dsimp only at hSw); go_simp; try with_reducible rfl)
          simp only [Act.put, List.getElem_toArray, List.getElem_cons_succ, List.getElem_cons_zero, List.setIfInBounds_toArray, List.set_cons_zero, List.set_cons_succ]
          refine wpAnyH_take (i := 16) (v := ?_) rfl (by kernel_rfl) (by kernel_rfl) (by kernel_rfl) (fun _ _ _ h => h) (Or.inl ⟨by kernel_rfl, ?_⟩) hHeld ?_
          rotate_left
          · (intro wx hSw; (try dsimp only at hSw); go_simp; try with_reducible rfl)
          simp only [Act.put, List.getElem_toArray, List.getElem_cons_succ, List.getElem_cons_zero, List.setIfInBounds_toArray, List.set_cons_zero, List.set_cons_succ]
          refine wpAnyH_done (by kernel_rfl) ?_ _
          clear hHeld
          go_wp2_with fail
          go_ret
          exact ⟨by rw [HO.out]; rfl, HB3.out⟩
        | true =>
          have HFAL : Hid (anyP (fun j => (rs.getD j (.empty, [])).1 == cl) k = true → q = false) := fun h => HRO.out (by rw [HEQ.out, h, hk, hv]; rfl)
          have HTRU : Hid (anyP (fun j => (rs.getD j (.empty, [])).1 == cl) k = false → ∀ i, i < k + 1 → ruleOk rs i = true) := fun h => HYES.out (by rw [HEQ.out, h, hk, hv]; rfl)
          rw [Hid, hv] at HC
          replace HC := Lib.hid HC
          clear hk hv HEQ HRO HYES
          go_wp2_with fail
          refine wp_region_held_drew (S := fun w' => w'.cell? ⟨b, off + k * 2, none⟩ = some (.string cl) ∧ w'.cell? ⟨b, off + k * 2 + 1, none⟩ = some (.slice ad3 m3 c3)) (by kernel_rfl) ?_ (fun hHeld => ?_)
          · go_keep
          refine wpAnyH_take (i := 1) (v := ?_) rfl (by kernel_rfl) (by kernel_rfl) (by kernel_rfl) (fun _ _ _ h => h) (Or.inl ⟨by kernel_rfl, ?_⟩) hHeld ?_
          rotate_left
          · (intro wx hSw; (try dsimp only at hSw); go_simp; try with_reducible rfl)
          simp only [Act.put, List.getElem_toArray, List.getElem_cons_succ, List.getElem_cons_zero, List.setIfInBounds_toArray, List.set_cons_zero, List.set_cons_succ]
          refine wpAnyH_take (i := 2) (v := ?_) rfl (by kernel_rfl) (by kernel_rfl) (by kernel_rfl) (fun _ _ _ h => h) (Or.inl ⟨by kernel_rfl, ?_⟩) hHeld ?_
          rotate_left
          · (intro wx hSw; (try dsimp only at hSw); go_simp; try with_reducible rfl)
          simp only [Act.put, List.getElem_toArray, List.getElem_cons_succ, List.getElem_cons_zero, List.setIfInBounds_toArray, List.set_cons_zero, List.set_cons_succ]
          refine wpAnyH_take (i := 3) (v := ?_) rfl (by kernel_rfl) (by kernel_rfl) (by kernel_rfl) (fun _ _ _ h => h) (Or.inl ⟨by kernel_rfl, ?_⟩) hHeld ?_
          rotate_left
          · (intro wx hSw; (try dsimp only at hSw); go_simp; try with_reducible rfl)
          simp only [Act.put, List.getElem_toArray, List.getElem_cons_succ, List.getElem_cons_zero, List.setIfInBounds_toArray, List.set_cons_zero, List.set_cons_succ]
          refine wpAnyH_take (i := 4) (v := ?_) rfl (by kernel_rfl) (by kernel_rfl) (by kernel_rfl) (fun _ _ _ h => h) (Or.inl ⟨by kernel_rfl, ?_⟩) hHeld ?_
          rotate_left
          · (intro wx hSw; (try dsimp only at hSw); go_simp; try with_reducible rfl)
          simp only [Act.put, List.getElem_toArray, List.getElem_cons_succ, List.getElem_cons_zero, List.setIfInBounds_toArray, List.set_cons_zero, List.set_cons_succ]
          refine wpAnyH_take (i := 5) (v := ?_) rfl (by kernel_rfl) (by kernel_rfl) (by kernel_rfl) (fun _ _ _ h => h) (Or.inl ⟨by kernel_rfl, ?_⟩) hHeld ?_
          rotate_left
          · (intro wx hSw; (try dsimp only at hSw); go_simp; try with_reducible rfl)
          simp only [Act.put, List.getElem_toArray, List.getElem_cons_succ, List.getElem_cons_zero, List.setIfInBounds_toArray, List.set_cons_zero, List.set_cons_succ]
          refine wpAnyH_ready (rs := [0]) (by kernel_rfl) (by simp) ?_
          refine AllReadyH.cons rfl (fun K hK => ?_) AllReadyH.nil
          go_simp
          refine (HCL.out _).mono ?_
          rintro e w2 ⟨ad2, n2, c2, rfl, hs2, hb2⟩
          have k0 : w2.cell? ⟨b, off + k * 2, none⟩ = some (.string cl) := (hb2.cell (p := ⟨b, off + k * 2, none⟩) hbz).trans C0.out
          have k1 : w2.cell? ⟨b, off + k * 2 + 1, none⟩ = some (.slice ad3 m3 c3) := (hb2.cell (p := ⟨b, off + k * 2 + 1, none⟩) hbz).trans C1.out
          have HB2 : Hid (Below w.heap.size w w2) := HBL.out.trans (((Below.refl _ _).drew.trans hb2).mono hzr)
          have HW2 : Hid (Below wo.heap.size wo w2) := (Below.refl _ _).drew.trans hb2
          have HS2 := Lib.hid hs2
          clear hs2 hb2
          go_simp
          clear hHeld
          refine hK.out _ _ ?_ (fun hHeld => ?_)
          · exact ⟨k0, k1⟩
          clear hK K
          refine wpAnyH_ready (rs := [6]) (by kernel_rfl) (by simp) ?_
          refine AllReadyH.cons rfl (fun K hK => ?_) AllReadyH.nil
          go_simp
          refine (HH.out _ _ _ _ HS2.out).mono ?_
          rintro e _ ⟨rfl, rfl⟩
          go_simp
          clear hHeld
          refine hK.out _ _ ?_ (fun hHeld => ?_)
          · exact ⟨k0, k1⟩
          clear hK K
          refine wpAnyH_take (i := 7) (v := ?_) rfl (by kernel_rfl) (by kernel_rfl) (by kernel_rfl) (fun _ _ _ h => h) (Or.inl ⟨by kernel_rfl, ?_⟩) hHeld ?_
          rotate_left
          · (intro wx hSw; (try dsimp only at hSw); go_simp; try with_reducible rfl)
          simp only [Act.put, List.getElem_toArray, List.getElem_cons_succ, List.getElem_cons_zero, List.setIfInBounds_toArray, List.set_cons_zero, List.set_cons_succ]
          refine wpAnyH_take (i := 8) (v := ?_) rfl (by kernel_rfl) (by kernel_rfl) (by kernel_rfl) (fun _ _ _ h => h) (Or.inl ⟨by kernel_rfl, ?_⟩) hHeld ?_
          rotate_left
          · (intro wx hSw; (try dsimp only at hSw); go_simp; try with_reducible rfl)
          simp only [Act.put, List.getElem_toArray, List.getElem_cons_succ, List.getElem_cons_zero, List.setIfInBounds_toArray, List.set_cons_zero, List.set_cons_succ]
          refine wpAnyH_take (i := 9) (v := ?_) rfl (by kernel_rfl) (by kernel_rfl) (by kernel_rfl) (fun _ _ _ h => h) (Or.inl ⟨by kernel_rfl, ?_⟩) hHeld ?_
          rotate_left
          · (intro wx hSw; (try dsimp only at hSw); go_simp; try with_reducible rfl)
          simp only [Act.put, List.getElem_toArray, List.getElem_cons_succ, List.getElem_cons_zero, List.setIfInBounds_toArray, List.set_cons_zero, List.set_cons_succ]
          refine wpAnyH_take (i := 10) (v := ?_) rfl (by kernel_rfl) (by kernel_rfl) (by kernel_rfl) (fun _ _ _ h => h) (Or.inl ⟨by kernel_rfl, ?_⟩) hHeld ?_
          rotate_left
          · (intro wx hSw; (try dsimp only at hSw); go_simp; try with_reducible rfl)
          simp only [Act.put, List.getElem_toArray, List.getElem_cons_succ, List.getElem_cons_zero, List.setIfInBounds_toArray, List.set_cons_zero, List.set_cons_succ]
          refine wpAnyH_take (i := 11) (v := ?_) rfl (by kernel_rfl) (by kernel_rfl) (by kernel_rfl) (fun _ _ _ h => h) (Or.inl ⟨by kernel_rfl, ?_⟩) hHeld ?_
          rotate_left
          · (intro wx hSw; (try dsimp only at hSw); go_simp; try with_reducible rfl)
          simp only [Act.put, List.getElem_toArray, List.getElem_cons_succ, List.getElem_cons_zero, List.setIfInBounds_toArray, List.set_cons_zero, List.set_cons_succ]
          refine wpAnyH_take (i := 12) (v := ?_) rfl (by kernel_rfl) (by kernel_rfl) (by kernel_rfl) (fun _ _ _ h => h) (Or.inl ⟨by kernel_rfl, ?_⟩) hHeld ?_
          rotate_left
          · (intro wx hSw; (try dsimp only at hSw); go_simp; try with_reducible rfl)
          simp only [Act.put, List.getElem_toArray, List.getElem_cons_succ, List.getElem_cons_zero, List.setIfInBounds_toArray, List.set_cons_zero, List.set_cons_succ]
          refine wpAnyH_take (i := 13) (v := ?_) rfl (by kernel_rfl) (by kernel_rfl) (by kernel_rfl) (fun _ _ _ h => h) (Or.inl ⟨by kernel_rfl, ?_⟩) hHeld ?_
          rotate_left
          · (intro wx hSw; (try dsimp only at hSw); go_simp; try with_reducible rfl)
          simp only [Act.put, List.getElem_toArray, List.getElem_cons_succ, List.getElem_cons_zero, List.setIfInBounds_toArray, List.set_cons_zero, List.set_cons_succ]
          refine wpAnyH_ready (rs := [14]) (by kernel_rfl) (by simp) ?_
          refine AllReadyH.cons rfl (fun K hK => ?_) AllReadyH.nil
          go_simp
          refine (HC.out _ HW2.out).mono ?_
          rintro e w3 ⟨rfl, hb3⟩
          have HB3 : Hid (Below w.heap.size w w3) := HB2.out.trans (hb3.mono HB2.out.size)
          have j0 : w3.cell? ⟨b, off + k * 2, none⟩ = some (.string cl) := (hb3.cell (p := ⟨b, off + k * 2, none⟩) (Nat.lt_of_lt_of_le hbz HW2.out.size)).trans k0
          have j1 : w3.cell? ⟨b, off + k * 2 + 1, none⟩ = some (.slice ad3 m3 c3) := (hb3.cell (p := ⟨b, off + k * 2 + 1, none⟩) (Nat.lt_of_lt_of_le hbz HW2.out.size)).trans k1
          have HZ3 : Hid (wo.heap.size ≤ w3.heap.size) := Nat.le_trans HW2.out.size hb3.size
          clear hb3
          go_simp
          clear hHeld
          refine hK.out _ _ ?_ (fun hHeld => ?_)
          · exact ⟨j0, j1⟩
          clear hK K
          refine wpAnyH_take (i := 15) (v := ?_) rfl (by kernel_rfl) (by kernel_rfl) (by kernel_rfl) (fun _ _ _ h => h) (Or.inl ⟨by kernel_rfl, ?_⟩) hHeld ?_
          rotate_left
          · (intro wx hSw; (try dsimp only at hSw); go_simp; try with_reducible rfl)
          simp only [Act.put, List.getElem_toArray, List.getElem_cons_succ, List.getElem_cons_zero, List.setIfInBounds_toArray, List.set_cons_zero, List.set_cons_succ]
          refine wpAnyH_take (i := 16) (v := ?_) rfl (by kernel_rfl) (by kernel_rfl) (by kernel_rfl) (fun _ _ _ h => h) (Or.inl ⟨by kernel_rfl, ?_⟩) hHeld ?_
          rotate_left
          · (intro wx hSw; (try dsimp only at hSw); go_simp; try with_reducible rfl)
          simp only [Act.put, List.getElem_toArray, List.getElem_cons_succ, List.getElem_cons_zero, List.setIfInBounds_toArray, List.set_cons_zero, List.set_cons_succ]
          refine wpAnyH_done (by kernel_rfl) ?_ _
          clear hHeld
          go_wp2_with fail
          have J0 := Lib.hid j0
          clear j0 j1 k0 k1 c0 c1
          go_loopw [4] (fun v wi => ∃ j : Nat, v = .int .i64 (j : Int) ∧ j ≤ k ∧ (∀ i, i < j → ((rs.getD i (.empty, [])).1 == cl) = false) ∧ Below w3.heap.size w3 wi) (fun v _ => k - (intOf v).toNat)
          case atStart => exact ⟨0, rfl, Nat.zero_le _, fun i hi => absurd hi (Nat.not_lt_zero _), Below.refl _ _⟩
          case round =>
            obtain ⟨wi, rfl⟩ : ∃ wi : World, wi = wr := ⟨_, rfl⟩
            obtain ⟨j, rfl, hjk, hal2, hbi⟩ := hrel
            have HAL2 := Lib.hid hal2
            have HBZ : Hid (Below w.heap.size w wi) := HB3.out.trans (hbi.mono HB3.out.size)
            have hsz := hbi.size
            have HBI := Lib.hid hbi
            have hrw := HR.out.below HBZ.out
            have hixk := fun W => hrw.ix 22 80 Tryz.underlying22 (by kernel_rfl) (by omega) hlt c W
            have i0 : wi.cell? ⟨b, off + k * 2, none⟩ = some (.string cl) := (hbi.cell (p := ⟨b, off + k * 2, none⟩) (Nat.lt_of_lt_of_le hbz HZ3.out)).trans J0.out
            clear hal2 hbi
            by_cases hlt2 : j < k
            · have hj0 : j < rs.length := by rw [HN.out]; omega
              have hixj := fun W => hrw.ix 22 80 Tryz.underlying22 (by kernel_rfl) (by omega) (show j < n by omega) c W
              have d0 : wi.cell? ⟨b, off + j * 2, none⟩ = some (f j 0) := hrw.cell j 0 (by omega) (by omega)
              obtain ⟨g0, _⟩ := RowsOf.get HF.out hj0 (.empty, [])
              rw [g0] at d0
              have HHIT : Hid (((rs.getD j (.empty, [])).1 == cl) = true → q = false) := fun h => HFAL.out (List.any_eq_true.2 ⟨j, List.mem_range.2 hlt2, h⟩)
              have HMISS : Hid (((rs.getD j (.empty, [])).1 == cl) = false → ∀ i, i < j + 1 → ((rs.getD i (.empty, [])).1 == cl) = false) := fun h i hi => by
                by_cases e : i = j
                · subst e; exact h
                · exact HAL2.out i (by omega)
              clear hrw g0 hj0
              generalize (rs.getD j (.empty, [])).1 = cj at *
              by_cases he : cj = cl
              · have HO := Lib.hid (HHIT.out (by rw [he]; simp))
                subst he
                have e1 : (cj.toList == cj.toList) = true := by simp
                clear HHIT HMISS
                go_wp2_with fail
                go_quiet (fail)
                go_wp2_with fail
                go_ret
                exact ⟨by rw [HO.out]; rfl, by show Bel w _; exact Bel.drewN HBZ.out _⟩
              · have HO := Lib.hid (HMISS.out (by rw [beq_eq_false_iff_ne]; exact he))
                have e1 : (cj.toList == cl.toList) = false := by rw [beq_eq_false_iff_ne]; exact fun e => he (ByteArray.ext (by simpa [ByteArray.toList_eq] using e))
                clear he HHIT HMISS
                go_wp2_with fail
                go_quiet (fail)
                go_wp2_with fail
                go_roundw
                case rel => exact ⟨j + 1, by go_num, by omega, HO.out, HBI.out.trans (Below.mono (w := wi) (by show Bel wi _; exact Bel.drewN (Bel.refl _) _) hsz)⟩
                case measure => simp [intOf]; omega
            · obtain rfl : j = k := by omega
              have HO := Lib.hid (HTRU.out (by
                unfold anyP
                rw [← Bool.not_eq_true, List.any_eq_true]
                rintro ⟨i, hi, hp⟩
                rw [HAL2.out i (List.mem_range.1 hi)] at hp
                cases hp))
              clear hrw
              go_wp2_with fail
              go_roundw
              case rel => exact ⟨j + 1, by go_num, by omega, HO.out, HBZ.out⟩
              case measure => simp [intOf]; omega
    · obtain rfl : k = n := by omega
      have HO : Hid (q = true) := HQ.out.symm.trans (validR_end (by rw [HN.out]; exact HAL.out))
      go_wp2_with fail
      go_ret
      exact ⟨by rw [HO.out]; rfl, HBL.out⟩
end Go.Proofs.YtadhblppeaamlaaGreatDoor
/- Walks over rules in the program: the class of a number. -/
namespace Go.Proofs.YtadhblppeaamlaaGreatDoor
open Go.RowKit
attribute [local go_sem] Ext.cell Ext.frozen
attribute [local go_sem ↓] Go.wp_at_zero Go.wp_at_succ

/-- a slice of one element of k cells -/
theorem rows_one {α : Type} {k : Nat} {C : World → (Nat → Value) → α → Prop} {w : World} {B : Nat} {g : Nat → Value} {a : α} (hg : ∀ j, j < k → w.cell? ⟨B, j, none⟩ = some (g j)) (hC : C w g a) : RowsOf k C w (.slice (some ⟨B, 0, none⟩) 1 1) [a] :=
  ⟨some ⟨B, 0, none⟩, 1, fun _ => g, B, 0, rfl, ⟨Nat.le_of_ble_eq_true rfl, fun _ => rfl, fun i j hi hj => by
    obtain rfl : i = 0 := by simp at hi; omega
    rw [Nat.zero_mul, Nat.zero_add]
    exact hg j hj⟩, (fun h => by cases h), Nat.le_refl _, Nat.le_of_ble_eq_true rfl, fun i x hx => by
    cases i with
    | zero => cases hx; exact hC
    | succ i => cases hx⟩
def always : List (List Rel) := [[⟨2, 0, true, [(0, 0)]⟩]]
theorem always_len : always.length ≤ 30 := by decide
theorem always_ok : validC always = true := by decide
theorem always_cond (w : World) (e1 e2 e3 : TypeId) : CondAt (((w.alloc (.cells #[.int .i64 0, .int .i64 0] e1)).alloc (.cells #[.int .i64 2, .int .i64 0, .bool true, .slice (some ⟨w.heap.size, 0, none⟩) 1 1] e2)).alloc (.cells #[.slice (some ⟨w.heap.size + 1, 0, none⟩) 1 1] e3)) (.slice (some ⟨w.heap.size + 2, 0, none⟩) 1 1) always := by
  refine rows_one (g := fun _ => .slice (some ⟨w.heap.size + 1, 0, none⟩) 1 1) (fun j hj => ?_) ?_
  · obtain rfl : j = 0 := by omega
    simp [go_sem]
  · refine rows_one (g := fun j => (#[.int .i64 2, .int .i64 0, .bool true, .slice (some ⟨w.heap.size, 0, none⟩) 1 1] : Array Value).getD j undef) (fun j hj => ?_) ⟨rfl, rfl, rfl, ?_⟩
    · rcases (by omega : j = 0 ∨ j = 1 ∨ j = 2 ∨ j = 3) with h | h | h | h <;> subst h <;> simp [go_sem]
    · refine rows_one (g := fun _ => .int .i64 0) (fun j hj => ?_) ⟨rfl, rfl⟩
      rcases (by omega : j = 0 ∨ j = 1) with h | h <;> subst h <;> simp [go_sem]
theorem holdsV_ok {s : List UInt8} {c : List (List Rel)} (h1 : validC c = true) (h2 : dOk s = true) : holdsV s c = (holdsC s c, 0) := by unfold holdsV; rw [h1, h2]; rfl
theorem holdsV_no2 {s : List UInt8} {c : List (List Rel)} (h2 : dOk s = false) : holdsV s c = (false, 1) := by unfold holdsV; rw [h2, Bool.and_false]; rfl
set_option maxRecDepth 20000 in
set_option maxHeartbeats 4000000 in
theorem pclass_any (v : Value) (rs : List (ByteArray × List (List Rel))) (s : ByteArray) (w : World) (h : RulesAt w v rs) (hl : ∀ r ∈ rs, r.2.length ≤ 30) (hs : s.size ≤ 1000) :
    Calls Tryz.prog 39 #[v, .string s] w fun e w' => e = .returned (.tuple #[.string (classV rs s.data.toList).1, .int .i64 ((classV rs s.data.toList).2 : Nat)]) ∧ Below w.heap.size w w' := by
  have HV : Hid (∀ W, Below w.heap.size w W → Calls Tryz.prog 25 #[v] W fun e w' => e = .returned (.bool (validR rs)) ∧ Below W.heap.size W w') := fun W hb => pvalid_any v rs W (h.below hb) hl
  have HA : Hid (∀ W2 v2, CondAt W2 v2 always → Calls Tryz.prog 64 #[v2, .string s] W2 fun e w' => e = .returned (.tuple #[.bool (holdsV s.data.toList always).1, .int .i64 ((holdsV s.data.toList always).2 : Nat)]) ∧ Below W2.heap.size W2 w') := fun W2 v2 hc => cholds_any v2 always s W2 hc always_len hs
  cases hv : validR rs with
  | false =>
    have HO : Hid (classV rs s.data.toList = (.empty, 1)) := classV_no hv
    rw [Hid, hv] at HV
    replace HV := Lib.hid HV
    generalize classV rs s.data.toList = q at *
    clear h HA
    go_enter Tryz.func39, Tryz.ntmps39
    go_wp2_with fail
    refine (Calls.toExt (HV.out _ (Below.refl _ _))).mono ?_
    rintro e _ ⟨rfl, x1, rfl⟩
    go_wp2_with fail
    go_ret2
    exact ⟨by rw [HO.out]; rfl, by show Bel w _; repeat (first | exact Bel.refl _ | refine Bel.drew ?_ | refine Bel.drewN ?_ _ | refine Bel.alloc ?_ _ | refine Bel.ext ?_ _)⟩
  | true =>
    have hvc := validR_all hv
    rw [Hid, hv] at HV
    replace HV := Lib.hid HV
    cases hd : dOk s.data.toList with
    | false =>
      have HO : Hid (classV rs s.data.toList = (.empty, 1)) := classV_no2 hd
      rw [Hid, holdsV_no2 hd] at HA
      replace HA := Lib.hid HA
      generalize classV rs s.data.toList = q at *
      clear h hvc
      go_enter Tryz.func39, Tryz.ntmps39
      go_wp2_with fail
      refine (Calls.toExt (HV.out _ (Below.refl _ _))).mono ?_
      rintro e _ ⟨rfl, x1, rfl⟩
      go_wp2_with fail
      refine (Calls.toExt (HA.out _ _ (always_cond _ _ _ _))).mono ?_
      rintro e _ ⟨rfl, x2, rfl⟩
      go_wp2_with fail
      go_ret2
      exact ⟨by rw [HO.out]; rfl, by show Bel w _; repeat (first | exact Bel.refl _ | refine Bel.drew ?_ | refine Bel.drewN ?_ _ | refine Bel.alloc ?_ _ | refine Bel.ext ?_ _)⟩
    | true =>
      have HO : Hid (classV rs s.data.toList = (classOf rs s.data.toList, 0)) := classV_yes hv hd
      rw [Hid, holdsV_ok always_ok hd] at HA
      replace HA := Lib.hid HA
      rw [HO.out]
      simp only
      obtain ⟨ad, c, f, b, off, rfl, hr, _, _, _, hf⟩ := h
      obtain ⟨n, hn⟩ : ∃ n, rs.length = n := ⟨_, rfl⟩
      rw [hn] at hr HV ⊢
      have hnm := hr.max
      have HN := Lib.hid hn
      have HR := Lib.hid hr
      have HF := Lib.hid hf
      have HL := Lib.hid hl
      have HVC := Lib.hid hvc
      have HD := Lib.hid hd
      clear hr hf hn hl hvc hd hv
      obtain ⟨q, hq⟩ : ∃ q, classOf rs s.data.toList = q := ⟨_, rfl⟩
      rw [hq]
      have HQ := Lib.hid hq
      clear hq HO
      generalize holdsC s.data.toList always = qa at *
      go_enter Tryz.func39, Tryz.ntmps39
      go_wp2_with fail
      refine (Calls.toExt (HV.out _ (Below.refl _ _))).mono ?_
      rintro e _ ⟨rfl, x1, rfl⟩
      go_wp2_with fail
      refine (Calls.toExt (HA.out _ _ (always_cond _ _ _ _))).mono ?_
      rintro e _ ⟨rfl, x2, rfl⟩
      go_wp2_with fail
      have HBX : Hid (Below w.heap.size w x2.1) := by show Bel w _; repeat (first | exact Bel.refl _ | refine Bel.drew ?_ | refine Bel.drewN ?_ _ | refine Bel.alloc ?_ _ | refine Bel.ext ?_ _)
      go_loopw [31] (fun v wr => ∃ k : Nat, v = .int .i64 (k : Int) ∧ k ≤ n ∧ (∀ i, i < k → holdsC s.data.toList (rs.getD i (.empty, [])).2 = false) ∧ Below w.heap.size w wr) (fun v _ => n - (intOf v).toNat)
      case atStart => exact ⟨0, rfl, Nat.zero_le _, fun i hi => absurd hi (Nat.not_lt_zero _), HBX.out⟩
      case round =>
        obtain ⟨k, rfl, hkn, hal, hbl⟩ := hrel
        have HAL := Lib.hid hal
        have HBL := Lib.hid hbl
        have hzr := hbl.size
        clear hal hbl
        by_cases hlt : k < n
        · have hrr := HR.out.below HBL.out
          have hix := fun W => hrr.ix 22 80 Tryz.underlying22 (by kernel_rfl) (by omega) hlt c W
          have c0 : wr.cell? ⟨b, off + k * 2, none⟩ = some (f k 0) := hrr.cell k 0 hlt (by omega)
          have c1 : wr.cell? ⟨b, off + k * 2 + 1, none⟩ = some (f k 1) := hrr.cell k 1 hlt (by omega)
          have hk0 : k < rs.length := by rw [HN.out]; exact hlt
          obtain ⟨f0, f1⟩ := RowsOf.get HF.out hk0 (.empty, [])
          rw [f0] at c0
          have hm := getD_mem rs k (.empty, []) hk0
          have HC : Hid (∀ W, Below wr.heap.size wr W → Calls Tryz.prog 64 #[f k 1, .string s] W fun e w' => e = .returned (.tuple #[.bool (holdsC s.data.toList (rs.getD k (.empty, [])).2), .int .i64 0]) ∧ Below W.heap.size W w') := fun W hb => by
            have := cholds_any (f k 1) _ s W ((f1.below HBL.out).below hb) (HL.out _ hm) hs
            rw [holdsV_ok (HVC.out _ hm) HD.out] at this
            exact this
          obtain ⟨ad3, c3, _, _, _, hv3, _, _, _, _, _⟩ := id f1
          rw [hv3] at c1
          rw [Hid, hv3] at HC
          replace HC := Lib.hid HC
          have HHIT : Hid (holdsC s.data.toList (rs.getD k (.empty, [])).2 = true → q = (rs.getD k (.empty, [])).1) := fun h => HQ.out.symm.trans (classOf_hit hk0 h HAL.out)
          have HMISS : Hid (holdsC s.data.toList (rs.getD k (.empty, [])).2 = false → ∀ i, i < k + 1 → holdsC s.data.toList (rs.getD i (.empty, [])).2 = false) := fun h i hi => by
            by_cases e : i = k
            · subst e; exact h
            · exact HAL.out i (by omega)
          clear hrr f0 f1 hv3 hm hk0
          generalize (rs.getD k (.empty, [])).2.length = m3 at *
          generalize rs.getD k (.empty, []) = r at *
          obtain ⟨cl, cd⟩ := r
          simp only at c0 HC HHIT HMISS
          cases hh : holdsC s.data.toList cd with
          | true =>
            have HO := Lib.hid (HHIT.out hh)
            rw [Hid, hh] at HC
            replace HC := Lib.hid HC
            clear hh HHIT HMISS
            go_wp2_with fail
            refine (Calls.toExt (HC.out _ ?_)).mono ?_
            · show Bel wr _; exact (Bel.refl _).alloc _
            rintro e _ ⟨rfl, x1, rfl⟩
            have hx1 : wr.heap.size < x1.1.heap.size := by have := x1.2.size; simp at this; omega
            go_wp2_with fail
            go_ret2
            exact ⟨by rw [HO.out]; rfl, by show Bel w _; repeat (first | exact Bel.refl _ | exact HBL.out | refine Bel.drew ?_ | refine Bel.drewN ?_ _ | refine Bel.alloc ?_ _ | refine Bel.ext ?_ _)⟩
          | false =>
            have HO := Lib.hid (HMISS.out hh)
            rw [Hid, hh] at HC
            replace HC := Lib.hid HC
            clear hh HHIT HMISS
            go_wp2_with fail
            refine (Calls.toExt (HC.out _ ?_)).mono ?_
            · show Bel wr _; exact (Bel.refl _).alloc _
            rintro e _ ⟨rfl, x1, rfl⟩
            have hx1 : wr.heap.size < x1.1.heap.size := by have := x1.2.size; simp at this; omega
            go_wp2_with fail
            go_roundw
            case rel => exact ⟨k + 1, by go_num, by omega, HO.out, by show Bel w _; repeat (first | exact Bel.refl _ | exact HBL.out | refine Bel.drew ?_ | refine Bel.drewN ?_ _ | refine Bel.alloc ?_ _ | refine Bel.ext ?_ _)⟩
            case measure => simp [intOf]; omega
        · obtain rfl : k = n := by omega
          have HO : Hid (q = otherB) := HQ.out.symm.trans (classOf_miss (by rw [HN.out]; exact HAL.out))
          go_wp2_with fail
          go_ret2
          exact ⟨by rw [HO.out]; rfl, HBL.out⟩
end Go.Proofs.YtadhblppeaamlaaGreatDoor
