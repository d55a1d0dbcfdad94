/- ChooseMore: a further case at the end, at kind 9. -/
import Derived.Test.YtadhblppeaamlaaGreatDoorQ29
namespace Go.Proofs.YtadhblppeaamlaaGreatDoor
open Go.RowKit
attribute [local go_sem] Ext.cell Ext.frozen
attribute [local go_sem ↓] Go.wp_at_zero Go.wp_at_succ
set_option maxRecDepth 100000 in
set_option maxHeartbeats 64000000 in
theorem chooseMore_sel (x p : Nat → Value) (a b : List (ByteArray × List (List Rel))) (d : Nat) (kind : Int) (name : ByteArray) (keys : List ByteArray) (a0 a1 : ByteArray) (w : World) (h : LocC w x a b) (hp : PartK d w p kind name keys) (ha0 : a0.size ≤ 140737488351232) (e9 : (kind == 9) = true) :
    Calls Tryz.prog 5 #[.agg #[x 0, x 1, x 2, x 3, x 4, x 5, x 6, x 7, x 8, x 9, x 10, x 11, x 12, x 13, x 14, x 15], .agg #[p 0, p 1, p 2, p 3, p 4, p 5], .agg #[.string a0, .string a1]] w fun e w' => e = .returned (.bool true) ∧ Below w.heap.size w w' := by
  have HA := Lib.hid awake31_any
  have hvs : ∀ W e, Below w.heap.size w W → ValsAt (W.alloc (.cells #[.string name, .int .i64 1, .string a0, .int .i64 0, .slice none 0 0] e)) (.slice (some ⟨W.heap.size, 0, none⟩) 1 1) [⟨name, 1, a0, 0, []⟩] := fun W e g => rows_one (g := fun j => (#[.string name, .int .i64 1, .string a0, .int .i64 0, .slice none 0 0] : Array Value).getD j undef) (fun j hj => by
    rcases (by omega : j = 0 ∨ j = 1 ∨ j = 2 ∨ j = 3 ∨ j = 4) with e | e | e | e | e <;> subst e <;> simp [go_sem]) ⟨rfl, hp.ks, rfl, rfl, ha0, rfl, rows_nil1 _⟩
  have hself := get_self ⟨name, 1, a0, 0, []⟩
  have hbW : ∀ W (e : TypeId), Below w.heap.size w W → Below w.heap.size w (W.alloc (.cells #[.string name, .int .i64 1, .string a0, .int .i64 0, .slice none 0 0] e)) := fun W e g => g.trans ((Below.refl _ _).alloc g.size _)
  have HF : Hid (∀ W B e, Below w.heap.size w W → B = W.heap.size → Calls Tryz.prog 10 #[.agg #[x 0, x 1, x 2, x 3, x 4, x 5, x 6, x 7, x 8, x 9, x 10, x 11, x 12, x 13, x 14, x 15], .agg #[p 0, p 1, p 2, p 3, p 4, p 5], .slice (some ⟨B, 0, none⟩) 1 1] (W.alloc (.cells #[.string name, .int .i64 1, .string a0, .int .i64 0, .slice none 0 0] e)) (BoolIfB (W.alloc (.cells #[.string name, .int .i64 1, .string a0, .int .i64 0, .slice none 0 0] e)) (FewC a ∧ FewC b ∧ FewV2 [⟨name, 1, a0, 0, []⟩]))) := fun W B e g hB => by
    subst hB
    exact few31_any x p a b _ _ d _ (h.below (hbW W e g)) (hp.tree.below (hbW W e g)) (hvs W e g)
  have HC1 : Hid (FewC a → FewC b → FewV2 [⟨name, 1, a0, 0, []⟩] → ∀ W e, Below w.heap.size w W → Calls Tryz.prog 11 #[.agg #[x 0, x 1, x 2, x 3, x 4, x 5, x 6, x 7, x 8, x 9, x 10, x 11, x 12, x 13, x 14, x 15], .agg #[p 0, p 1, p 2, p 3, p 4, p 5], .slice (some ⟨W.heap.size, 0, none⟩) 1 1] (W.alloc (.cells #[.string name, .int .i64 1, .string a0, .int .i64 0, .slice none 0 0] e)) fun e' w' => e' = .returned (.tuple #[.int .i64 (chooseW kind (rulesV kind a b) keys true ⟨name, 1, a0, 0, []⟩).1, .int .i64 ((chooseW kind (rulesV kind a b) keys true ⟨name, 1, a0, 0, []⟩).2 : Nat)]) ∧ Below (W.alloc (.cells #[.string name, .int .i64 1, .string a0, .int .i64 0, .slice none 0 0] e)).heap.size (W.alloc (.cells #[.string name, .int .i64 1, .string a0, .int .i64 0, .slice none 0 0] e)) w') := fun ha hb hf W e g => by
    have := choose_any x p a b d kind name keys _ _ _ (h.below (hbW W e g)) (hp.below (hbW W e g)) (hvs W e g) hf.1 ha hb
    rw [hself.1, hself.2] at this
    exact this
  obtain ⟨s1, hp1, _⟩ := hp.tree.2.1
  obtain ⟨s3, hp3, _⟩ := hp.tree.2.2.2.1
  obtain ⟨qad, qn, qc, hp5⟩ := hp.tree.2.2.2.2.2.slice
  have hp0 := hp.k0
  have hp2 := hp.k2
  have hcl := hp.kl
  obtain ⟨cad, cc, cf, cb, coff, hp4, hcr, hcz, _, _, hcf⟩ := id hp.k4
  have HC2 : Hid (FewC a → FewC b → FewV2 [⟨name, 1, a0, 0, []⟩] → ∀ W e mad mc, Below w.heap.size w W → RowsOf 2 CaseC W (.slice mad (keys.length + 1) mc) (keys ++ [a1]) → Calls Tryz.prog 11 #[.agg #[x 0, x 1, x 2, x 3, x 4, x 5, x 6, x 7, x 8, x 9, x 10, x 11, x 12, x 13, x 14, x 15], .agg #[.int .i64 kind, .string s1, .string name, .string s3, .slice mad (keys.length + 1) mc, .slice qad qn qc], .slice (some ⟨W.heap.size, 0, none⟩) 1 1] (W.alloc (.cells #[.string name, .int .i64 1, .string a0, .int .i64 0, .slice none 0 0] e)) fun e' w' => e' = .returned (.tuple #[.int .i64 (chooseW kind (rulesV kind a b) (keys ++ [a1]) true ⟨name, 1, a0, 0, []⟩).1, .int .i64 ((chooseW kind (rulesV kind a b) (keys ++ [a1]) true ⟨name, 1, a0, 0, []⟩).2 : Nat)]) ∧ Below (W.alloc (.cells #[.string name, .int .i64 1, .string a0, .int .i64 0, .slice none 0 0] e)).heap.size (W.alloc (.cells #[.string name, .int .i64 1, .string a0, .int .i64 0, .slice none 0 0] e)) w') := fun ha hb hf W e mad mc g hk => by
    have := choose_any2 x (fun j => (#[.int .i64 kind, .string s1, .string name, .string s3, .slice mad (keys.length + 1) mc, .slice qad qn qc] : Array Value).getD j undef) a b kind name (keys ++ [a1]) _ _ _ (h.below (hbW W e g)) rfl rfl (hk.map ((Below.refl _ _).alloc (Nat.le_refl _) _) fun _ _ h => h) (by rw [List.length_append]; show (keys.length + 1) * 40 ≤ _; omega) (hvs W e g) hf.1 ha hb
    rw [hself.1, hself.2] at this
    exact this
  have HCL : Hid (FewC a → FewC b → a0.size ≤ 1000 → ∀ W, Below w.heap.size w W → Calls Tryz.prog 16 #[.agg #[x 0, x 1, x 2, x 3, x 4, x 5, x 6, x 7, x 8, x 9, x 10, x 11, x 12, x 13, x 14, x 15], .int .i64 kind, .string a0] W fun e w' => e = .returned (.tuple #[.string (clsV kind (rulesV kind a b) a0.data.toList).1, .int .i64 ((clsV kind (rulesV kind a b) a0.data.toList).2 : Nat)]) ∧ Below W.heap.size W w') := fun ha hb hs W g => cclass_any x a b kind a0 W (h.below g) ha hb hs
  have hmore := more_law kind (rulesV kind a b) keys a1 ⟨name, 1, a0, 0, []⟩
  obtain ⟨cn, hcn⟩ : ∃ n, keys.length = n := ⟨_, rfl⟩
  simp only at hmore
  rw [hcn] at hp4 hcr hcl HC2 hmore
  have HMORE := Lib.hid hmore
  have HCN := Lib.hid hcn
  have HCR := Lib.hid hcr
  have HCF := Lib.hid hcf
  have HCZ := Lib.hid hcz
  have HC1C : Hid (∀ i j, i < cn → j < 2 → (cf i j).oneCell' = true) := fun i j hi hj => case_one (RowsOf.get hcf (show i < keys.length by omega) ByteArray.empty) j hj
  have HAPP : Hid (flat 2 cf cn ++ [.string a1, .slice none 0 0] = flat 2 (fun i j => if i < cn then cf i j else (#[.string a1, .slice none 0 0] : Array Value).getD j undef) (cn + 1)) := flat_append 2 cf (fun _ j => (#[.string a1, .slice none 0 0] : Array Value).getD j undef) cn 1
  generalize chooseW kind (rulesV kind a b) keys true ⟨name, 1, a0, 0, []⟩ = cw1 at *
  generalize chooseW kind (rulesV kind a b) (keys ++ [a1]) true ⟨name, 1, a0, 0, []⟩ = cw2 at *
  obtain ⟨ci, ce⟩ := cw1
  obtain ⟨di, de⟩ := cw2
  generalize clsV kind (rulesV kind a b) a0.data.toList = cls at *
  obtain ⟨cs, cq⟩ := cls
  simp only at HC1 HC2 HCL
  rw [Hid] at HMORE
  simp only at HMORE
  replace HMORE := Lib.hid HMORE
  rw [Hid, hp0, hp1, hp2, hp3, hp4, hp5] at HF HC1
  replace HF := Lib.hid HF
  replace HC1 := Lib.hid HC1
  rw [hp0, hp1, hp2, hp3, hp4, hp5]
  have hk9 : kind = 9 := by simpa using e9
  have HK9 := Lib.hid hk9
  clear h hp hvs hbW hself hcn hcr hcf hcz hmore hp0 hp1 hp2 hp3 hp4 hp5 hk9
  generalize x 0 = x0 at *
  generalize x 1 = x1 at *
  generalize x 2 = x2 at *
  generalize x 3 = x3 at *
  generalize x 4 = x4 at *
  generalize x 5 = x5 at *
  generalize x 6 = x6 at *
  generalize x 7 = x7 at *
  generalize x 8 = x8 at *
  generalize x 9 = x9 at *
  generalize x 10 = x10 at *
  generalize x 11 = x11 at *
  generalize x 12 = x12 at *
  generalize x 13 = x13 at *
  generalize x 14 = x14 at *
  generalize x 15 = x15 at *
  go_enter Tryz.func5, Tryz.ntmps5
  go_wp2_with fail
  refine (HA.out _).mono ?_
  rintro e W1 ⟨rfl, hb1⟩
  have HW1 : Hid (Below w.heap.size w W1) := Below.trans (by show Bel w _; exact (((Bel.refl _).alloc _).alloc _).alloc _) (hb1.mono (by simp; omega))
  have HRL1 : Hid (W1.heap[w.heap.size]? = some (.cells #[x0, x1, x2, x3, x4, x5, x6, x7, x8, x9, x10, x11, x12, x13, x14, x15] 30 (0, 0))) := (hb1.block _ (by simp; omega)).trans ((Below.heap_alloc _ _ _ (by simp; omega)).trans ((Below.heap_alloc _ _ _ (by simp)).trans (row_first w _ _)))
  have HRP1 : Hid (W1.heap[w.heap.size + 1]? = some (.cells #[.int .i64 kind, .string s1, .string name, .string s3, .slice cad cn cc, .slice qad qn qc] 34 (0, 0))) := (hb1.block _ (by simp)).trans ((Below.heap_alloc _ _ _ (by simp)).trans (row_second w _ _ _))
  have HRA1 : Hid (W1.heap[w.heap.size + 2]? = some (.cells #[.string a0, .string a1] 47 (0, 0))) := (hb1.block _ (by simp)).trans (row_three w _ _ _ _)
  have hz1 : w.heap.size + 2 < W1.heap.size := by have := hb1.size; simp at this; omega
  have o10 : w.heap.size < W1.heap.size := by omega
  have o11 : w.heap.size + 1 < W1.heap.size := by omega
  clear hb1
  have lq0 : W1.cell? ⟨w.heap.size, 0, none⟩ = some (x0) := by rw [Lib.cell_of_heap HRL1.out]; rfl
  have lq1 : W1.cell? ⟨w.heap.size, 1, none⟩ = some (x1) := by rw [Lib.cell_of_heap HRL1.out]; rfl
  have lq2 : W1.cell? ⟨w.heap.size, 2, none⟩ = some (x2) := by rw [Lib.cell_of_heap HRL1.out]; rfl
  have lq3 : W1.cell? ⟨w.heap.size, 3, none⟩ = some (x3) := by rw [Lib.cell_of_heap HRL1.out]; rfl
  have lq4 : W1.cell? ⟨w.heap.size, 4, none⟩ = some (x4) := by rw [Lib.cell_of_heap HRL1.out]; rfl
  have lq5 : W1.cell? ⟨w.heap.size, 5, none⟩ = some (x5) := by rw [Lib.cell_of_heap HRL1.out]; rfl
  have lq6 : W1.cell? ⟨w.heap.size, 6, none⟩ = some (x6) := by rw [Lib.cell_of_heap HRL1.out]; rfl
  have lq7 : W1.cell? ⟨w.heap.size, 7, none⟩ = some (x7) := by rw [Lib.cell_of_heap HRL1.out]; rfl
  have lq8 : W1.cell? ⟨w.heap.size, 8, none⟩ = some (x8) := by rw [Lib.cell_of_heap HRL1.out]; rfl
  have lq9 : W1.cell? ⟨w.heap.size, 9, none⟩ = some (x9) := by rw [Lib.cell_of_heap HRL1.out]; rfl
  have lq10 : W1.cell? ⟨w.heap.size, 10, none⟩ = some (x10) := by rw [Lib.cell_of_heap HRL1.out]; rfl
  have lq11 : W1.cell? ⟨w.heap.size, 11, none⟩ = some (x11) := by rw [Lib.cell_of_heap HRL1.out]; rfl
  have lq12 : W1.cell? ⟨w.heap.size, 12, none⟩ = some (x12) := by rw [Lib.cell_of_heap HRL1.out]; rfl
  have lq13 : W1.cell? ⟨w.heap.size, 13, none⟩ = some (x13) := by rw [Lib.cell_of_heap HRL1.out]; rfl
  have lq14 : W1.cell? ⟨w.heap.size, 14, none⟩ = some (x14) := by rw [Lib.cell_of_heap HRL1.out]; rfl
  have lq15 : W1.cell? ⟨w.heap.size, 15, none⟩ = some (x15) := by rw [Lib.cell_of_heap HRL1.out]; rfl
  have pq0 : W1.cell? ⟨w.heap.size + 1, 0, none⟩ = some (.int .i64 kind) := by rw [Lib.cell_of_heap HRP1.out]; rfl
  have pq1 : W1.cell? ⟨w.heap.size + 1, 1, none⟩ = some (.string s1) := by rw [Lib.cell_of_heap HRP1.out]; rfl
  have pq2 : W1.cell? ⟨w.heap.size + 1, 2, none⟩ = some (.string name) := by rw [Lib.cell_of_heap HRP1.out]; rfl
  have pq3 : W1.cell? ⟨w.heap.size + 1, 3, none⟩ = some (.string s3) := by rw [Lib.cell_of_heap HRP1.out]; rfl
  have pq4 : W1.cell? ⟨w.heap.size + 1, 4, none⟩ = some (.slice cad cn cc) := by rw [Lib.cell_of_heap HRP1.out]; rfl
  have pq5 : W1.cell? ⟨w.heap.size + 1, 5, none⟩ = some (.slice qad qn qc) := by rw [Lib.cell_of_heap HRP1.out]; rfl
  have aq0 : W1.cell? ⟨w.heap.size + 2, 0, none⟩ = some (.string a0) := by rw [Lib.cell_of_heap HRA1.out]; rfl
  have aq1 : W1.cell? ⟨w.heap.size + 2, 1, none⟩ = some (.string a1) := by rw [Lib.cell_of_heap HRA1.out]; rfl
  go_wp2_with fail
  obtain ⟨W2, hW2⟩ : ∃ W2, W2 = W1.alloc (.cells #[.string name, .int .i64 1, .string a0, .int .i64 0, .slice none 0 0] 46) := ⟨_, rfl⟩
  rw [← hW2]
  have HB2 : Hid (Below W1.heap.size W1 W2) := by rw [Hid, hW2]; exact (Below.refl _ _).alloc (Nat.le_refl _) _
  have HW2 : Hid (Below w.heap.size w W2) := HW1.out.trans (HB2.out.mono HW1.out.size)
  have HRV2 : Hid (W2.heap[W1.heap.size]? = some (.cells #[.string name, .int .i64 1, .string a0, .int .i64 0, .slice none 0 0] 46 (0, 0))) := by rw [Hid, hW2]; exact row_first W1 _ _
  have hs2 : W1.heap.size + 1 = W2.heap.size := by rw [hW2]; simp
  have HS2 := Lib.hid hs2
  have hz2 : W1.heap.size < W2.heap.size := by omega
  clear hW2 hs2
  clear lq0 lq1 lq2 lq3 lq4 lq5 lq6 lq7 lq8 lq9 lq10 lq11 lq12 lq13 lq14 lq15 pq0 pq1 pq2 pq3 pq4 pq5 aq0 aq1
  have HRL2 : Hid (W2.heap[w.heap.size]? = some (.cells #[x0, x1, x2, x3, x4, x5, x6, x7, x8, x9, x10, x11, x12, x13, x14, x15] 30 (0, 0))) := (HB2.out.block _ (by omega)).trans HRL1.out
  have HRP2 : Hid (W2.heap[w.heap.size + 1]? = some (.cells #[.int .i64 kind, .string s1, .string name, .string s3, .slice cad cn cc, .slice qad qn qc] 34 (0, 0))) := (HB2.out.block _ (by omega)).trans HRP1.out
  have HRA2 : Hid (W2.heap[w.heap.size + 2]? = some (.cells #[.string a0, .string a1] 47 (0, 0))) := (HB2.out.block _ (by omega)).trans HRA1.out
  refine (HF.out _ _ _ HW2.out HS2.out).mono ?_
  rintro e W3 ⟨qa, rfl, hb3, hqa⟩
  have HQA := Lib.hid hqa
  have HBA : Hid (Below W2.heap.size W2 (W2.alloc (.cells #[.string name, .int .i64 1, .string a0, .int .i64 0, .slice none 0 0] 46))) := (Below.refl _ _).alloc (Nat.le_refl _) _
  have HB3 : Hid (Below W2.heap.size W2 W3) := HBA.out.trans (hb3.mono (by simp))
  have HW3 : Hid (Below w.heap.size w W3) := HW2.out.trans (HB3.out.mono HW2.out.size)
  have HRL3 : Hid (W3.heap[w.heap.size]? = some (.cells #[x0, x1, x2, x3, x4, x5, x6, x7, x8, x9, x10, x11, x12, x13, x14, x15] 30 (0, 0))) := (HB3.out.block _ (by omega)).trans HRL2.out
  have HRP3 : Hid (W3.heap[w.heap.size + 1]? = some (.cells #[.int .i64 kind, .string s1, .string name, .string s3, .slice cad cn cc, .slice qad qn qc] 34 (0, 0))) := (HB3.out.block _ (by omega)).trans HRP2.out
  have HRA3 : Hid (W3.heap[w.heap.size + 2]? = some (.cells #[.string a0, .string a1] 47 (0, 0))) := (HB3.out.block _ (by omega)).trans HRA2.out
  have HRV3 : Hid (W3.heap[W1.heap.size]? = some (.cells #[.string name, .int .i64 1, .string a0, .int .i64 0, .slice none 0 0] 46 (0, 0))) := (HB3.out.block _ (by omega)).trans HRV2.out
  have hz3 : W1.heap.size < W3.heap.size := by have := HB3.out.size; omega
  clear hb3 hqa
  cases qa with
  | false =>
    go_wp2_with fail
    go_ret
    exact ⟨rfl, HW3.out⟩
  | true =>
    obtain ⟨hfa, hfb, hfv⟩ := HQA.out rfl
    have hs0 : a0.size ≤ 200 := (hfv.1 _ (List.mem_cons_self ..)).1
    replace HC1 := Lib.hid (HC1.out hfa hfb hfv)
    replace HC2 := Lib.hid (HC2.out hfa hfb hfv)
    replace HCL := Lib.hid (HCL.out hfa hfb (by omega))
    clear hfa hfb hfv HQA
    have i1 : W3.cell? ⟨w.heap.size + 2, 1, none⟩ = some (.string a1) := by rw [Lib.cell_of_heap HRA3.out]; rfl
    by_cases h60 : 60 < (a1.size : Int)
    · have h60' : decide (60 < (a1.size : Int)) = true := by simpa using h60
      go_wp2_with fail
      go_ret
      exact ⟨rfl, HW3.out⟩
    have h60' : decide (60 < (a1.size : Int)) = false := by simpa using h60
    go_wp2_with fail
    refine (valid_some a1 (by omega) _).mono ?_
    rintro e W4 ⟨qv, rfl, hb4⟩
    have HB4 : Hid (Below W3.heap.size W3 W4) := hb4
    have HW4 : Hid (Below w.heap.size w W4) := HW3.out.trans (HB4.out.mono HW3.out.size)
    have HRL4 : Hid (W4.heap[w.heap.size]? = some (.cells #[x0, x1, x2, x3, x4, x5, x6, x7, x8, x9, x10, x11, x12, x13, x14, x15] 30 (0, 0))) := (HB4.out.block _ (by omega)).trans HRL3.out
    have HRP4 : Hid (W4.heap[w.heap.size + 1]? = some (.cells #[.int .i64 kind, .string s1, .string name, .string s3, .slice cad cn cc, .slice qad qn qc] 34 (0, 0))) := (HB4.out.block _ (by omega)).trans HRP3.out
    have HRA4 : Hid (W4.heap[w.heap.size + 2]? = some (.cells #[.string a0, .string a1] 47 (0, 0))) := (HB4.out.block _ (by omega)).trans HRA3.out
    have HRV4 : Hid (W4.heap[W1.heap.size]? = some (.cells #[.string name, .int .i64 1, .string a0, .int .i64 0, .slice none 0 0] 46 (0, 0))) := (HB4.out.block _ (by omega)).trans HRV3.out
    have hz4 : W1.heap.size < W4.heap.size := by have := HB4.out.size; omega
    clear hb4 i1
    cases qv with
    | false =>
      go_wp2_with fail
      go_ret
      exact ⟨rfl, HW4.out⟩
    | true =>
      have o40 : w.heap.size < W4.heap.size := by omega
      have o41 : w.heap.size + 1 < W4.heap.size := by omega
      have o42 : w.heap.size + 2 < W4.heap.size := by omega
      have pq0 : W4.cell? ⟨w.heap.size + 1, 0, none⟩ = some (.int .i64 kind) := by rw [Lib.cell_of_heap HRP4.out]; rfl
      have pq1 : W4.cell? ⟨w.heap.size + 1, 1, none⟩ = some (.string s1) := by rw [Lib.cell_of_heap HRP4.out]; rfl
      have pq2 : W4.cell? ⟨w.heap.size + 1, 2, none⟩ = some (.string name) := by rw [Lib.cell_of_heap HRP4.out]; rfl
      have pq3 : W4.cell? ⟨w.heap.size + 1, 3, none⟩ = some (.string s3) := by rw [Lib.cell_of_heap HRP4.out]; rfl
      have pq4 : W4.cell? ⟨w.heap.size + 1, 4, none⟩ = some (.slice cad cn cc) := by rw [Lib.cell_of_heap HRP4.out]; rfl
      have pq5 : W4.cell? ⟨w.heap.size + 1, 5, none⟩ = some (.slice qad qn qc) := by rw [Lib.cell_of_heap HRP4.out]; rfl
      go_wp2_with fail
      refine wp_at_worldT ?_
      intro W5 hW5
      have HMW5 : Hid (W5.heap[W4.heap.size]? = some (.cells #[.int .i64 kind, .string s1, .string name, .string s3, .slice cad cn cc, .slice qad qn qc] 34 (0, 0))) := by rw [hW5]; exact row_first W4 _ _
      have HBW5 : Hid (Below W4.heap.size W4 W5) := by rw [hW5]; exact (Below.refl _ _).alloc (Nat.le_refl _) _
      have HW5 : Hid (Below w.heap.size w W5) := HW4.out.trans (HBW5.out.mono HW4.out.size)
      have HBLW5 : Hid (Below W5.heap.size W5 W5) := Below.refl _ _
      have s45 : W4.heap.size < W5.heap.size := by rw [hW5]; simp
      have pW5 : W5.cell? ⟨w.heap.size + 1, 4, none⟩ = some (.slice cad cn cc) := (HBW5.out.cell (p := ⟨w.heap.size + 1, 4, none⟩) o41).trans (by rw [Lib.cell_of_heap HRP4.out]; rfl)
      have aW5 : W5.cell? ⟨w.heap.size + 2, 1, none⟩ = some (.string a1) := (HBW5.out.cell (p := ⟨w.heap.size + 2, 1, none⟩) o42).trans (by rw [Lib.cell_of_heap HRA4.out]; rfl)
      have hzW5 : W5.heap.size ≤ W5.heap.size := Nat.le_refl _
      clear hW5 pq0 pq1 pq2 pq3 pq4 pq5
      go_cut [] (fun wx => ∃ (mad : Option Addr) (mc : Nat), wx.heap[W4.heap.size]? = some (.cells #[.int .i64 kind, .string s1, .string name, .string s3, .slice mad (cn + 1) mc, .slice qad qn qc] 34 (0, 0)) ∧ wx.ownsRow W5.heap.size 44 2 (.slice mad (cn + 1) mc) (cn + 1) (flat 2 (fun i j => if i < cn then cf i j else (#[.string a1, .slice none 0 0] : Array Value).getD j undef) (cn + 1)) ∧ Below W4.heap.size W4 wx)
      case first =>
        as_aux_lemma =>
          refine wp_region_held_drew (S := fun w' => w'.cell? ⟨w.heap.size + 1, 4, none⟩ = some (.slice cad cn cc) ∧ w'.cell? ⟨w.heap.size + 2, 1, none⟩ = some (.string a1)) (by kernel_rfl) ⟨pW5, aW5⟩ (fun hHeld => ?_)
          refine wpAnyH_take (i := 1) (v := ?_) rfl (by kernel_rfl) (by kernel_rfl) (by kernel_rfl) (fun _ _ _ h => h) (Or.inl ⟨by kernel_rfl, ?_⟩) hHeld ?_
          rotate_left
          · (intro wx hSw; obtain ⟨t1, t2⟩ := hSw; go_simp; try with_reducible rfl)
          simp only [Act.put, List.getElem_toArray, List.getElem_cons_succ, List.getElem_cons_zero, List.setIfInBounds_toArray, List.set_cons_zero, List.set_cons_succ]
          refine wpAnyH_take (i := 2) (v := ?_) rfl (by kernel_rfl) (by kernel_rfl) (by kernel_rfl) (fun _ _ _ h => h) (Or.inl ⟨by kernel_rfl, ?_⟩) hHeld ?_
          rotate_left
          · (intro wx hSw; obtain ⟨t1, t2⟩ := hSw; go_simp; try with_reducible rfl)
          simp only [Act.put, List.getElem_toArray, List.getElem_cons_succ, List.getElem_cons_zero, List.setIfInBounds_toArray, List.set_cons_zero, List.set_cons_succ]
          refine wpAnyH_take (i := 4) (v := ?_) rfl (by kernel_rfl) (by kernel_rfl) (by kernel_rfl) (fun _ _ _ h => h) (Or.inl ⟨by kernel_rfl, ?_⟩) hHeld ?_
          rotate_left
          · (intro wx hSw; obtain ⟨t1, t2⟩ := hSw; go_simp; try with_reducible rfl)
          simp only [Act.put, List.getElem_toArray, List.getElem_cons_succ, List.getElem_cons_zero, List.setIfInBounds_toArray, List.set_cons_zero, List.set_cons_succ]
          refine wpAnyH_take (i := 5) (v := ?_) rfl (by kernel_rfl) (by kernel_rfl) (by kernel_rfl) (fun _ _ _ h => h) (Or.inl ⟨by kernel_rfl, ?_⟩) hHeld ?_
          rotate_left
          · (intro wx hSw; obtain ⟨t1, t2⟩ := hSw; go_simp; try with_reducible rfl)
          simp only [Act.put, List.getElem_toArray, List.getElem_cons_succ, List.getElem_cons_zero, List.setIfInBounds_toArray, List.set_cons_zero, List.set_cons_succ]
          refine wpAnyH_take (i := 6) (v := ?_) rfl (by kernel_rfl) (by kernel_rfl) (by kernel_rfl) (fun _ _ _ h => h) (Or.inl ⟨by kernel_rfl, ?_⟩) hHeld ?_
          rotate_left
          · (intro wx hSw; obtain ⟨t1, t2⟩ := hSw; go_simp; try with_reducible rfl)
          simp only [Act.put, List.getElem_toArray, List.getElem_cons_succ, List.getElem_cons_zero, List.setIfInBounds_toArray, List.set_cons_zero, List.set_cons_succ]
          refine wpAnyH_ready (rs := [0, 7]) (by kernel_rfl) (by simp) ?_
          refine AllReadyH.cons rfl (fun K hK => ?_) (AllReadyH.cons rfl (fun K hK => ?_) AllReadyH.nil)
          · go_simp
            refine hK.out _ _ ⟨Lib.cell?_alloc_some _ pW5, Lib.cell?_alloc_some _ aW5⟩ (fun hHeld2 => ?_)
            clear hK K hHeld
            have hHeld := hHeld2
            clear hHeld2
            refine wpAnyH_world ?_
            intro X1 hXX1
            have hbX1 : Below W5.heap.size W5 X1 := by rw [hXX1]; show Bel W5 _; repeat (first | exact Bel.refl _ | refine Bel.drew ?_ | refine Bel.alloc ?_ _)
            have hrX1 : X1.heap[W5.heap.size]? = some (.cells #[] 44 (0, 0)) := by rw [hXX1]; exact row_first W5 _ _
            have hsX1 : W5.heap.size < X1.heap.size := by rw [hXX1]; show _ < (World.alloc W5 _).heap.size; simp
            rw [← hXX1] at hHeld
            clear hXX1
            have pX1 : X1.cell? ⟨w.heap.size + 1, 4, none⟩ = some (.slice cad cn cc) := (hbX1.cell (p := ⟨w.heap.size + 1, 4, none⟩) (by have := hzW5; show w.heap.size + 1 < _; omega)).trans pW5
            have aX1 : X1.cell? ⟨w.heap.size + 2, 1, none⟩ = some (.string a1) := (hbX1.cell (p := ⟨w.heap.size + 2, 1, none⟩) (by have := hzW5; show w.heap.size + 2 < _; omega)).trans aW5
            have HMX1 : Hid (X1.heap[W4.heap.size]? = some (.cells #[.int .i64 kind, .string s1, .string name, .string s3, .slice cad cn cc, .slice qad qn qc] 34 (0, 0))) := (hbX1.block _ (by have := hzW5; omega)).trans HMW5.out
            have hzX1 : W5.heap.size ≤ X1.heap.size := Nat.le_trans hzW5 hbX1.size
            have HBLX1 : Hid (Below W5.heap.size W5 X1) := HBLW5.out.trans (hbX1.mono hzW5)
            have OWX1 : X1.ownsRow W5.heap.size 44 2 (.slice (some ⟨W5.heap.size, 0, none⟩) 0 0) 0 [] := ⟨rfl, .inr ⟨W5.heap.size, 0, #[], rfl, hzW5, hrX1, Nat.le_refl _, Nat.zero_le _, rfl, rfl⟩⟩
            clear hrX1
            refine wpAnyH_ready (rs := [3, 7]) (by kernel_rfl) (by simp) ?_
            refine AllReadyH.cons rfl (fun K hK => ?_) (AllReadyH.cons rfl (fun K hK => ?_) AllReadyH.nil)
            · refine step_app_rows rfl (.tmp 45) (.tmp 47) rfl Tryz.underlying31 infoCase (by rfl) (by omega) W5.heap.size (some ⟨W5.heap.size, 0, none⟩) 0 0 [] (by rfl) OWX1 cad cn cc cf cb coff (by rfl) (HCR.out.below (HW5.out.trans (HBLX1.out.mono HW5.out.size))) HCZ.out HC1C.out (by unfold maxLen; omega) (by omega) hzX1 ?_
              intro ad3 c3 X2 OWX2 hgX2
              rw [Nat.zero_add cn, List.nil_append] at OWX2
              rw [Nat.zero_add cn]
              have hneX2 : ∀ q, q < W5.heap.size → some q ≠ Value.ownBlock (.slice (some ⟨W5.heap.size, 0, none⟩) 0 0) := fun q hq e => by have := own_base OWX1 q e.symm; omega
              have pX2 : X2.cell? ⟨w.heap.size + 1, 4, none⟩ = some (.slice cad cn cc) := (hgX2.cell_far ⟨w.heap.size + 1, 4, none⟩ (by have := hzX1; show w.heap.size + 1 < _; omega) (hneX2 _ (by show w.heap.size + 1 < _; omega))).trans pX1
              have aX2 : X2.cell? ⟨w.heap.size + 2, 1, none⟩ = some (.string a1) := (hgX2.cell_far ⟨w.heap.size + 2, 1, none⟩ (by have := hzX1; show w.heap.size + 2 < _; omega) (hneX2 _ (by show w.heap.size + 2 < _; omega))).trans aX1
              have HMX2 : Hid (X2.heap[W4.heap.size]? = some (.cells #[.int .i64 kind, .string s1, .string name, .string s3, .slice cad cn cc, .slice qad qn qc] 34 (0, 0))) := (hgX2.block _ (by have := hzX1; omega) (hneX2 _ (by omega))).trans HMX1.out
              have hzX2 : W5.heap.size ≤ X2.heap.size := Nat.le_trans hzX1 hgX2.size
              have HBLX2 : Hid (Below W5.heap.size W5 X2) := Below.grown HBLX1.out hgX2 hzX1 (own_base OWX1)
              refine hK.out _ _ ⟨pX2, aX2⟩ (fun hHeld2 => ?_)
              clear hK K hHeld
              have hHeld := hHeld2
              clear hHeld2
              refine wpAnyH_ready (rs := [7]) (by kernel_rfl) (by simp) ?_
              refine AllReadyH.cons rfl (fun K hK => ?_) AllReadyH.nil
              go_simp
              refine hK.out _ _ ⟨Lib.cell?_alloc_some _ pX2, Lib.cell?_alloc_some _ aX2⟩ (fun hHeld2 => ?_)
              clear hK K hHeld
              have hHeld := hHeld2
              clear hHeld2
              refine wpAnyH_world ?_
              intro X3 hXX3
              have hbX3 : Below X2.heap.size X2 X3 := by rw [hXX3]; show Bel X2 _; repeat (first | exact Bel.refl _ | refine Bel.drew ?_ | refine Bel.alloc ?_ _)
              have hrX3 : X3.heap[X2.heap.size]? = some (.cells #[.string a1, .slice none 0 0] 44 (0, 0)) := by rw [hXX3]; exact row_first X2 _ _
              have hsX3 : X2.heap.size < X3.heap.size := by rw [hXX3]; show _ < (World.alloc X2 _).heap.size; simp
              rw [← hXX3] at hHeld
              clear hXX3
              have pX3 : X3.cell? ⟨w.heap.size + 1, 4, none⟩ = some (.slice cad cn cc) := (hbX3.cell (p := ⟨w.heap.size + 1, 4, none⟩) (by have := hzX2; show w.heap.size + 1 < _; omega)).trans pX2
              have aX3 : X3.cell? ⟨w.heap.size + 2, 1, none⟩ = some (.string a1) := (hbX3.cell (p := ⟨w.heap.size + 2, 1, none⟩) (by have := hzX2; show w.heap.size + 2 < _; omega)).trans aX2
              have HMX3 : Hid (X3.heap[W4.heap.size]? = some (.cells #[.int .i64 kind, .string s1, .string name, .string s3, .slice cad cn cc, .slice qad qn qc] 34 (0, 0))) := (hbX3.block _ (by have := hzX2; omega)).trans HMX2.out
              have hzX3 : W5.heap.size ≤ X3.heap.size := Nat.le_trans hzX2 hbX3.size
              have HBLX3 : Hid (Below W5.heap.size W5 X3) := HBLX2.out.trans (hbX3.mono hzX2)
              have OWX3 := own_below OWX2 hbX3
              have NBX3 : Rw X3 (some ⟨X2.heap.size, 0, none⟩) 1 2 (fun _ j => (#[.string a1, .slice none 0 0] : Array Value).getD j undef) X2.heap.size 0 := ⟨by omega, fun _ => rfl, fun i j hi hj => by
                obtain rfl : i = 0 := by omega
                rcases (by omega : j = 0 ∨ j = 1) with e | e <;> subst e <;> (rw [Lib.cell_of_heap hrX3]; rfl)⟩
              clear hrX3
              refine wpAnyH_ready (rs := [8]) (by kernel_rfl) (by simp) ?_
              refine AllReadyH.cons rfl (fun K hK => ?_) AllReadyH.nil
              refine step_app_rows rfl (.tmp 48) (.tmp 52) rfl Tryz.underlying31 infoCase (by rfl) (by omega) W5.heap.size ad3 cn c3 (flat 2 cf cn) (by rfl) OWX3 (some ⟨X2.heap.size, 0, none⟩) 1 1 (fun _ j => (#[.string a1, .slice none 0 0] : Array Value).getD j undef) X2.heap.size 0 (by rfl) NBX3 (fun h => by cases h) (fun i j _ hj => by rcases (by omega : j = 0 ∨ j = 1) with e | e <;> subst e <;> rfl) (by unfold maxLen; omega) (by omega) hzX3 ?_
              intro ad8 c8 X4 OWX4 hgX4
              have hneX4 : ∀ q, q < W5.heap.size → some q ≠ Value.ownBlock (.slice ad3 cn c3) := fun q hq e => by have := own_base OWX3 q e.symm; omega
              have pX4 : X4.cell? ⟨w.heap.size + 1, 4, none⟩ = some (.slice cad cn cc) := (hgX4.cell_far ⟨w.heap.size + 1, 4, none⟩ (by have := hzX3; show w.heap.size + 1 < _; omega) (hneX4 _ (by show w.heap.size + 1 < _; omega))).trans pX3
              have aX4 : X4.cell? ⟨w.heap.size + 2, 1, none⟩ = some (.string a1) := (hgX4.cell_far ⟨w.heap.size + 2, 1, none⟩ (by have := hzX3; show w.heap.size + 2 < _; omega) (hneX4 _ (by show w.heap.size + 2 < _; omega))).trans aX3
              have HMX4 : Hid (X4.heap[W4.heap.size]? = some (.cells #[.int .i64 kind, .string s1, .string name, .string s3, .slice cad cn cc, .slice qad qn qc] 34 (0, 0))) := (hgX4.block _ (by have := hzX3; omega) (hneX4 _ (by omega))).trans HMX3.out
              have hzX4 : W5.heap.size ≤ X4.heap.size := Nat.le_trans hzX3 hgX4.size
              have HBLX4 : Hid (Below W5.heap.size W5 X4) := Below.grown HBLX3.out hgX4 hzX3 (own_base OWX3)
              refine hK.out _ _ ⟨pX4, aX4⟩ (fun hHeld2 => ?_)
              clear hK K hHeld
              have hHeld := hHeld2
              clear hHeld2
              refine wpAnyH_take (i := 9) (v := ?_) rfl (by kernel_rfl) (by kernel_rfl) (by kernel_rfl) (fun _ _ _ h => h) (Or.inl ⟨by kernel_rfl, ?_⟩) hHeld ?_
              rotate_left
              · (intro wx hSw; obtain ⟨t1, t2⟩ := hSw; go_simp; try with_reducible rfl)
              simp only [Act.put, List.getElem_toArray, List.getElem_cons_succ, List.getElem_cons_zero, List.setIfInBounds_toArray, List.set_cons_zero, List.set_cons_succ]
              refine wpAnyH_ready (rs := [10]) (by kernel_rfl) (by simp) ?_
              have m4 : X4.cell? ⟨W4.heap.size, 4, none⟩ = some (.slice cad cn cc) := by rw [Lib.cell_of_heap HMX4.out]; rfl
              have f4 : X4.frozen? ⟨W4.heap.size, 4, none⟩ = false := row_fz6 HMX4.out 4
              refine AllReadyH.cons rfl (fun K hK => ?_) AllReadyH.nil
              go_simp
              have ne1 : (⟨W4.heap.size, 4, none⟩ : Addr) ≠ ⟨w.heap.size + 1, 4, none⟩ := fun e => by have := congrArg Addr.block e; simp only at this; omega
              have ne2 : (⟨W4.heap.size, 4, none⟩ : Addr) ≠ ⟨w.heap.size + 2, 1, none⟩ := fun e => by have := congrArg Addr.block e; simp only at this; omega
              refine hK.out _ _ ⟨by rw [World.cell?_setCell_other (h := ne1)]; exact pX4, by rw [World.cell?_setCell_other (h := ne2)]; exact aX4⟩ (fun hHeld2 => ?_)
              clear hK K hHeld
              have hHeld := hHeld2
              clear hHeld2
              refine wpAnyH_done (by kernel_rfl) ?_ _
              clear hHeld pX4 aX4 m4 f4
              go_wp2_with fail
              go_meet
              refine ⟨ad8, c8, row_st6 HMX4.out 4 _, own_store (cast_own rfl HAPP.out OWX4) _ (by omega), Bel.setCell (HBW5.out.trans (HBLX4.out.mono HBW5.out.size)) _ _ (by show W4.heap.size ≤ W4.heap.size; omega)⟩
            · go_simp
              refine hK.out _ _ ⟨Lib.cell?_alloc_some _ pX1, Lib.cell?_alloc_some _ aX1⟩ (fun hHeld2 => ?_)
              clear hK K hHeld
              have hHeld := hHeld2
              clear hHeld2
              refine wpAnyH_world ?_
              intro X2 hXX2
              have hbX2 : Below X1.heap.size X1 X2 := by rw [hXX2]; show Bel X1 _; repeat (first | exact Bel.refl _ | refine Bel.drew ?_ | refine Bel.alloc ?_ _)
              have hrX2 : X2.heap[X1.heap.size]? = some (.cells #[.string a1, .slice none 0 0] 44 (0, 0)) := by rw [hXX2]; exact row_first X1 _ _
              have hsX2 : X1.heap.size < X2.heap.size := by rw [hXX2]; show _ < (World.alloc X1 _).heap.size; simp
              rw [← hXX2] at hHeld
              clear hXX2
              have pX2 : X2.cell? ⟨w.heap.size + 1, 4, none⟩ = some (.slice cad cn cc) := (hbX2.cell (p := ⟨w.heap.size + 1, 4, none⟩) (by have := hzX1; show w.heap.size + 1 < _; omega)).trans pX1
              have aX2 : X2.cell? ⟨w.heap.size + 2, 1, none⟩ = some (.string a1) := (hbX2.cell (p := ⟨w.heap.size + 2, 1, none⟩) (by have := hzX1; show w.heap.size + 2 < _; omega)).trans aX1
              have HMX2 : Hid (X2.heap[W4.heap.size]? = some (.cells #[.int .i64 kind, .string s1, .string name, .string s3, .slice cad cn cc, .slice qad qn qc] 34 (0, 0))) := (hbX2.block _ (by have := hzX1; omega)).trans HMX1.out
              have hzX2 : W5.heap.size ≤ X2.heap.size := Nat.le_trans hzX1 hbX2.size
              have HBLX2 : Hid (Below W5.heap.size W5 X2) := HBLX1.out.trans (hbX2.mono hzX1)
              have OWX2 := own_below OWX1 hbX2
              have NBX2 : Rw X2 (some ⟨X1.heap.size, 0, none⟩) 1 2 (fun _ j => (#[.string a1, .slice none 0 0] : Array Value).getD j undef) X1.heap.size 0 := ⟨by omega, fun _ => rfl, fun i j hi hj => by
                obtain rfl : i = 0 := by omega
                rcases (by omega : j = 0 ∨ j = 1) with e | e <;> subst e <;> (rw [Lib.cell_of_heap hrX2]; rfl)⟩
              clear hrX2
              refine wpAnyH_ready (rs := [3]) (by kernel_rfl) (by simp) ?_
              refine AllReadyH.cons rfl (fun K hK => ?_) AllReadyH.nil
              refine step_app_rows rfl (.tmp 45) (.tmp 47) rfl Tryz.underlying31 infoCase (by rfl) (by omega) W5.heap.size (some ⟨W5.heap.size, 0, none⟩) 0 0 [] (by rfl) OWX2 cad cn cc cf cb coff (by rfl) (HCR.out.below (HW5.out.trans (HBLX2.out.mono HW5.out.size))) HCZ.out HC1C.out (by unfold maxLen; omega) (by omega) hzX2 ?_
              intro ad3 c3 X3 OWX3 hgX3
              rw [Nat.zero_add cn, List.nil_append] at OWX3
              rw [Nat.zero_add cn]
              have hneX3 : ∀ q, q < W5.heap.size → some q ≠ Value.ownBlock (.slice (some ⟨W5.heap.size, 0, none⟩) 0 0) := fun q hq e => by have := own_base OWX2 q e.symm; omega
              have pX3 : X3.cell? ⟨w.heap.size + 1, 4, none⟩ = some (.slice cad cn cc) := (hgX3.cell_far ⟨w.heap.size + 1, 4, none⟩ (by have := hzX2; show w.heap.size + 1 < _; omega) (hneX3 _ (by show w.heap.size + 1 < _; omega))).trans pX2
              have aX3 : X3.cell? ⟨w.heap.size + 2, 1, none⟩ = some (.string a1) := (hgX3.cell_far ⟨w.heap.size + 2, 1, none⟩ (by have := hzX2; show w.heap.size + 2 < _; omega) (hneX3 _ (by show w.heap.size + 2 < _; omega))).trans aX2
              have HMX3 : Hid (X3.heap[W4.heap.size]? = some (.cells #[.int .i64 kind, .string s1, .string name, .string s3, .slice cad cn cc, .slice qad qn qc] 34 (0, 0))) := (hgX3.block _ (by have := hzX2; omega) (hneX3 _ (by omega))).trans HMX2.out
              have hzX3 : W5.heap.size ≤ X3.heap.size := Nat.le_trans hzX2 hgX3.size
              have HBLX3 : Hid (Below W5.heap.size W5 X3) := Below.grown HBLX2.out hgX3 hzX2 (own_base OWX2)
              have NBX3 : Rw X3 (some ⟨X1.heap.size, 0, none⟩) 1 2 (fun _ j => (#[.string a1, .slice none 0 0] : Array Value).getD j undef) X1.heap.size 0 := ⟨by omega, fun _ => rfl, fun i j hi hj => by
                rw [hgX3.cell_far _ (NBX2.block (by omega) (by omega)) (fun e => by
                  injection e with e
                  have e : X1.heap.size = W5.heap.size := e
                  omega)]
                exact NBX2.cell i j hi hj⟩
              refine hK.out _ _ ⟨pX3, aX3⟩ (fun hHeld2 => ?_)
              clear hK K hHeld
              have hHeld := hHeld2
              clear hHeld2
              refine wpAnyH_ready (rs := [8]) (by kernel_rfl) (by simp) ?_
              refine AllReadyH.cons rfl (fun K hK => ?_) AllReadyH.nil
              refine step_app_rows rfl (.tmp 48) (.tmp 52) rfl Tryz.underlying31 infoCase (by rfl) (by omega) W5.heap.size ad3 cn c3 (flat 2 cf cn) (by rfl) OWX3 (some ⟨X1.heap.size, 0, none⟩) 1 1 (fun _ j => (#[.string a1, .slice none 0 0] : Array Value).getD j undef) X1.heap.size 0 (by rfl) NBX3 (fun h => by cases h) (fun i j _ hj => by rcases (by omega : j = 0 ∨ j = 1) with e | e <;> subst e <;> rfl) (by unfold maxLen; omega) (by omega) hzX3 ?_
              intro ad8 c8 X4 OWX4 hgX4
              have hneX4 : ∀ q, q < W5.heap.size → some q ≠ Value.ownBlock (.slice ad3 cn c3) := fun q hq e => by have := own_base OWX3 q e.symm; omega
              have pX4 : X4.cell? ⟨w.heap.size + 1, 4, none⟩ = some (.slice cad cn cc) := (hgX4.cell_far ⟨w.heap.size + 1, 4, none⟩ (by have := hzX3; show w.heap.size + 1 < _; omega) (hneX4 _ (by show w.heap.size + 1 < _; omega))).trans pX3
              have aX4 : X4.cell? ⟨w.heap.size + 2, 1, none⟩ = some (.string a1) := (hgX4.cell_far ⟨w.heap.size + 2, 1, none⟩ (by have := hzX3; show w.heap.size + 2 < _; omega) (hneX4 _ (by show w.heap.size + 2 < _; omega))).trans aX3
              have HMX4 : Hid (X4.heap[W4.heap.size]? = some (.cells #[.int .i64 kind, .string s1, .string name, .string s3, .slice cad cn cc, .slice qad qn qc] 34 (0, 0))) := (hgX4.block _ (by have := hzX3; omega) (hneX4 _ (by omega))).trans HMX3.out
              have hzX4 : W5.heap.size ≤ X4.heap.size := Nat.le_trans hzX3 hgX4.size
              have HBLX4 : Hid (Below W5.heap.size W5 X4) := Below.grown HBLX3.out hgX4 hzX3 (own_base OWX3)
              refine hK.out _ _ ⟨pX4, aX4⟩ (fun hHeld2 => ?_)
              clear hK K hHeld
              have hHeld := hHeld2
              clear hHeld2
              refine wpAnyH_take (i := 9) (v := ?_) rfl (by kernel_rfl) (by kernel_rfl) (by kernel_rfl) (fun _ _ _ h => h) (Or.inl ⟨by kernel_rfl, ?_⟩) hHeld ?_
              rotate_left
              · (intro wx hSw; obtain ⟨t1, t2⟩ := hSw; go_simp; try with_reducible rfl)
              simp only [Act.put, List.getElem_toArray, List.getElem_cons_succ, List.getElem_cons_zero, List.setIfInBounds_toArray, List.set_cons_zero, List.set_cons_succ]
              refine wpAnyH_ready (rs := [10]) (by kernel_rfl) (by simp) ?_
              have m4 : X4.cell? ⟨W4.heap.size, 4, none⟩ = some (.slice cad cn cc) := by rw [Lib.cell_of_heap HMX4.out]; rfl
              have f4 : X4.frozen? ⟨W4.heap.size, 4, none⟩ = false := row_fz6 HMX4.out 4
              refine AllReadyH.cons rfl (fun K hK => ?_) AllReadyH.nil
              go_simp
              have ne1 : (⟨W4.heap.size, 4, none⟩ : Addr) ≠ ⟨w.heap.size + 1, 4, none⟩ := fun e => by have := congrArg Addr.block e; simp only at this; omega
              have ne2 : (⟨W4.heap.size, 4, none⟩ : Addr) ≠ ⟨w.heap.size + 2, 1, none⟩ := fun e => by have := congrArg Addr.block e; simp only at this; omega
              refine hK.out _ _ ⟨by rw [World.cell?_setCell_other (h := ne1)]; exact pX4, by rw [World.cell?_setCell_other (h := ne2)]; exact aX4⟩ (fun hHeld2 => ?_)
              clear hK K hHeld
              have hHeld := hHeld2
              clear hHeld2
              refine wpAnyH_done (by kernel_rfl) ?_ _
              clear hHeld pX4 aX4 m4 f4
              go_wp2_with fail
              go_meet
              refine ⟨ad8, c8, row_st6 HMX4.out 4 _, own_store (cast_own rfl HAPP.out OWX4) _ (by omega), Bel.setCell (HBW5.out.trans (HBLX4.out.mono HBW5.out.size)) _ _ (by show W4.heap.size ≤ W4.heap.size; omega)⟩
          · go_simp
            refine hK.out _ _ ⟨Lib.cell?_alloc_some _ pW5, Lib.cell?_alloc_some _ aW5⟩ (fun hHeld2 => ?_)
            clear hK K hHeld
            have hHeld := hHeld2
            clear hHeld2
            refine wpAnyH_world ?_
            intro X1 hXX1
            have hbX1 : Below W5.heap.size W5 X1 := by rw [hXX1]; show Bel W5 _; repeat (first | exact Bel.refl _ | refine Bel.drew ?_ | refine Bel.alloc ?_ _)
            have hrX1 : X1.heap[W5.heap.size]? = some (.cells #[.string a1, .slice none 0 0] 44 (0, 0)) := by rw [hXX1]; exact row_first W5 _ _
            have hsX1 : W5.heap.size < X1.heap.size := by rw [hXX1]; show _ < (World.alloc W5 _).heap.size; simp
            rw [← hXX1] at hHeld
            clear hXX1
            have pX1 : X1.cell? ⟨w.heap.size + 1, 4, none⟩ = some (.slice cad cn cc) := (hbX1.cell (p := ⟨w.heap.size + 1, 4, none⟩) (by have := hzW5; show w.heap.size + 1 < _; omega)).trans pW5
            have aX1 : X1.cell? ⟨w.heap.size + 2, 1, none⟩ = some (.string a1) := (hbX1.cell (p := ⟨w.heap.size + 2, 1, none⟩) (by have := hzW5; show w.heap.size + 2 < _; omega)).trans aW5
            have HMX1 : Hid (X1.heap[W4.heap.size]? = some (.cells #[.int .i64 kind, .string s1, .string name, .string s3, .slice cad cn cc, .slice qad qn qc] 34 (0, 0))) := (hbX1.block _ (by have := hzW5; omega)).trans HMW5.out
            have hzX1 : W5.heap.size ≤ X1.heap.size := Nat.le_trans hzW5 hbX1.size
            have HBLX1 : Hid (Below W5.heap.size W5 X1) := HBLW5.out.trans (hbX1.mono hzW5)
            have NBX1 : Rw X1 (some ⟨W5.heap.size, 0, none⟩) 1 2 (fun _ j => (#[.string a1, .slice none 0 0] : Array Value).getD j undef) W5.heap.size 0 := ⟨by omega, fun _ => rfl, fun i j hi hj => by
              obtain rfl : i = 0 := by omega
              rcases (by omega : j = 0 ∨ j = 1) with e | e <;> subst e <;> (rw [Lib.cell_of_heap hrX1]; rfl)⟩
            clear hrX1
            refine wpAnyH_ready (rs := [0]) (by kernel_rfl) (by simp) ?_
            refine AllReadyH.cons rfl (fun K hK => ?_) AllReadyH.nil
            go_simp
            refine hK.out _ _ ⟨Lib.cell?_alloc_some _ pX1, Lib.cell?_alloc_some _ aX1⟩ (fun hHeld2 => ?_)
            clear hK K hHeld
            have hHeld := hHeld2
            clear hHeld2
            refine wpAnyH_world ?_
            intro X2 hXX2
            have hbX2 : Below X1.heap.size X1 X2 := by rw [hXX2]; show Bel X1 _; repeat (first | exact Bel.refl _ | refine Bel.drew ?_ | refine Bel.alloc ?_ _)
            have hrX2 : X2.heap[X1.heap.size]? = some (.cells #[] 44 (0, 0)) := by rw [hXX2]; exact row_first X1 _ _
            have hsX2 : X1.heap.size < X2.heap.size := by rw [hXX2]; show _ < (World.alloc X1 _).heap.size; simp
            rw [← hXX2] at hHeld
            clear hXX2
            have pX2 : X2.cell? ⟨w.heap.size + 1, 4, none⟩ = some (.slice cad cn cc) := (hbX2.cell (p := ⟨w.heap.size + 1, 4, none⟩) (by have := hzX1; show w.heap.size + 1 < _; omega)).trans pX1
            have aX2 : X2.cell? ⟨w.heap.size + 2, 1, none⟩ = some (.string a1) := (hbX2.cell (p := ⟨w.heap.size + 2, 1, none⟩) (by have := hzX1; show w.heap.size + 2 < _; omega)).trans aX1
            have HMX2 : Hid (X2.heap[W4.heap.size]? = some (.cells #[.int .i64 kind, .string s1, .string name, .string s3, .slice cad cn cc, .slice qad qn qc] 34 (0, 0))) := (hbX2.block _ (by have := hzX1; omega)).trans HMX1.out
            have hzX2 : W5.heap.size ≤ X2.heap.size := Nat.le_trans hzX1 hbX2.size
            have HBLX2 : Hid (Below W5.heap.size W5 X2) := HBLX1.out.trans (hbX2.mono hzX1)
            have NBX2 := NBX1.below hbX2
            have OWX2 : X2.ownsRow W5.heap.size 44 2 (.slice (some ⟨X1.heap.size, 0, none⟩) 0 0) 0 [] := ⟨rfl, .inr ⟨X1.heap.size, 0, #[], rfl, hzX1, hrX2, Nat.le_refl _, Nat.zero_le _, rfl, rfl⟩⟩
            clear hrX2
            refine wpAnyH_ready (rs := [3]) (by kernel_rfl) (by simp) ?_
            refine AllReadyH.cons rfl (fun K hK => ?_) AllReadyH.nil
            refine step_app_rows rfl (.tmp 45) (.tmp 47) rfl Tryz.underlying31 infoCase (by rfl) (by omega) W5.heap.size (some ⟨X1.heap.size, 0, none⟩) 0 0 [] (by rfl) OWX2 cad cn cc cf cb coff (by rfl) (HCR.out.below (HW5.out.trans (HBLX2.out.mono HW5.out.size))) HCZ.out HC1C.out (by unfold maxLen; omega) (by omega) hzX2 ?_
            intro ad3 c3 X3 OWX3 hgX3
            rw [Nat.zero_add cn, List.nil_append] at OWX3
            rw [Nat.zero_add cn]
            have hneX3 : ∀ q, q < W5.heap.size → some q ≠ Value.ownBlock (.slice (some ⟨X1.heap.size, 0, none⟩) 0 0) := fun q hq e => by have := own_base OWX2 q e.symm; omega
            have pX3 : X3.cell? ⟨w.heap.size + 1, 4, none⟩ = some (.slice cad cn cc) := (hgX3.cell_far ⟨w.heap.size + 1, 4, none⟩ (by have := hzX2; show w.heap.size + 1 < _; omega) (hneX3 _ (by show w.heap.size + 1 < _; omega))).trans pX2
            have aX3 : X3.cell? ⟨w.heap.size + 2, 1, none⟩ = some (.string a1) := (hgX3.cell_far ⟨w.heap.size + 2, 1, none⟩ (by have := hzX2; show w.heap.size + 2 < _; omega) (hneX3 _ (by show w.heap.size + 2 < _; omega))).trans aX2
            have HMX3 : Hid (X3.heap[W4.heap.size]? = some (.cells #[.int .i64 kind, .string s1, .string name, .string s3, .slice cad cn cc, .slice qad qn qc] 34 (0, 0))) := (hgX3.block _ (by have := hzX2; omega) (hneX3 _ (by omega))).trans HMX2.out
            have hzX3 : W5.heap.size ≤ X3.heap.size := Nat.le_trans hzX2 hgX3.size
            have HBLX3 : Hid (Below W5.heap.size W5 X3) := Below.grown HBLX2.out hgX3 hzX2 (own_base OWX2)
            have NBX3 : Rw X3 (some ⟨W5.heap.size, 0, none⟩) 1 2 (fun _ j => (#[.string a1, .slice none 0 0] : Array Value).getD j undef) W5.heap.size 0 := ⟨by omega, fun _ => rfl, fun i j hi hj => by
              rw [hgX3.cell_far _ (NBX2.block (by omega) (by omega)) (fun e => by
                injection e with e
                have e : W5.heap.size = X1.heap.size := e
                omega)]
              exact NBX2.cell i j hi hj⟩
            refine hK.out _ _ ⟨pX3, aX3⟩ (fun hHeld2 => ?_)
            clear hK K hHeld
            have hHeld := hHeld2
            clear hHeld2
            refine wpAnyH_ready (rs := [8]) (by kernel_rfl) (by simp) ?_
            refine AllReadyH.cons rfl (fun K hK => ?_) AllReadyH.nil
            refine step_app_rows rfl (.tmp 48) (.tmp 52) rfl Tryz.underlying31 infoCase (by rfl) (by omega) W5.heap.size ad3 cn c3 (flat 2 cf cn) (by rfl) OWX3 (some ⟨W5.heap.size, 0, none⟩) 1 1 (fun _ j => (#[.string a1, .slice none 0 0] : Array Value).getD j undef) W5.heap.size 0 (by rfl) NBX3 (fun h => by cases h) (fun i j _ hj => by rcases (by omega : j = 0 ∨ j = 1) with e | e <;> subst e <;> rfl) (by unfold maxLen; omega) (by omega) hzX3 ?_
            intro ad8 c8 X4 OWX4 hgX4
            have hneX4 : ∀ q, q < W5.heap.size → some q ≠ Value.ownBlock (.slice ad3 cn c3) := fun q hq e => by have := own_base OWX3 q e.symm; omega
            have pX4 : X4.cell? ⟨w.heap.size + 1, 4, none⟩ = some (.slice cad cn cc) := (hgX4.cell_far ⟨w.heap.size + 1, 4, none⟩ (by have := hzX3; show w.heap.size + 1 < _; omega) (hneX4 _ (by show w.heap.size + 1 < _; omega))).trans pX3
            have aX4 : X4.cell? ⟨w.heap.size + 2, 1, none⟩ = some (.string a1) := (hgX4.cell_far ⟨w.heap.size + 2, 1, none⟩ (by have := hzX3; show w.heap.size + 2 < _; omega) (hneX4 _ (by show w.heap.size + 2 < _; omega))).trans aX3
            have HMX4 : Hid (X4.heap[W4.heap.size]? = some (.cells #[.int .i64 kind, .string s1, .string name, .string s3, .slice cad cn cc, .slice qad qn qc] 34 (0, 0))) := (hgX4.block _ (by have := hzX3; omega) (hneX4 _ (by omega))).trans HMX3.out
            have hzX4 : W5.heap.size ≤ X4.heap.size := Nat.le_trans hzX3 hgX4.size
            have HBLX4 : Hid (Below W5.heap.size W5 X4) := Below.grown HBLX3.out hgX4 hzX3 (own_base OWX3)
            refine hK.out _ _ ⟨pX4, aX4⟩ (fun hHeld2 => ?_)
            clear hK K hHeld
            have hHeld := hHeld2
            clear hHeld2
            refine wpAnyH_take (i := 9) (v := ?_) rfl (by kernel_rfl) (by kernel_rfl) (by kernel_rfl) (fun _ _ _ h => h) (Or.inl ⟨by kernel_rfl, ?_⟩) hHeld ?_
            rotate_left
            · (intro wx hSw; obtain ⟨t1, t2⟩ := hSw; go_simp; try with_reducible rfl)
            simp only [Act.put, List.getElem_toArray, List.getElem_cons_succ, List.getElem_cons_zero, List.setIfInBounds_toArray, List.set_cons_zero, List.set_cons_succ]
            refine wpAnyH_ready (rs := [10]) (by kernel_rfl) (by simp) ?_
            have m4 : X4.cell? ⟨W4.heap.size, 4, none⟩ = some (.slice cad cn cc) := by rw [Lib.cell_of_heap HMX4.out]; rfl
            have f4 : X4.frozen? ⟨W4.heap.size, 4, none⟩ = false := row_fz6 HMX4.out 4
            refine AllReadyH.cons rfl (fun K hK => ?_) AllReadyH.nil
            go_simp
            have ne1 : (⟨W4.heap.size, 4, none⟩ : Addr) ≠ ⟨w.heap.size + 1, 4, none⟩ := fun e => by have := congrArg Addr.block e; simp only at this; omega
            have ne2 : (⟨W4.heap.size, 4, none⟩ : Addr) ≠ ⟨w.heap.size + 2, 1, none⟩ := fun e => by have := congrArg Addr.block e; simp only at this; omega
            refine hK.out _ _ ⟨by rw [World.cell?_setCell_other (h := ne1)]; exact pX4, by rw [World.cell?_setCell_other (h := ne2)]; exact aX4⟩ (fun hHeld2 => ?_)
            clear hK K hHeld
            have hHeld := hHeld2
            clear hHeld2
            refine wpAnyH_done (by kernel_rfl) ?_ _
            clear hHeld pX4 aX4 m4 f4
            go_wp2_with fail
            go_meet
            refine ⟨ad8, c8, row_st6 HMX4.out 4 _, own_store (cast_own rfl HAPP.out OWX4) _ (by omega), Bel.setCell (HBW5.out.trans (HBLX4.out.mono HBW5.out.size)) _ _ (by show W4.heap.size ≤ W4.heap.size; omega)⟩
      case rest =>
        obtain ⟨mad, mc, hM, hown, hbl⟩ := hcut
        obtain ⟨W6, hW6⟩ : ∃ W6, W6 = wc := ⟨_, rfl⟩
        rw [← hW6] at hM hown hbl ⊢
        clear hW6
        have HRM6 : Hid (W6.heap[W4.heap.size]? = some (.cells #[.int .i64 kind, .string s1, .string name, .string s3, .slice mad (cn + 1) mc, .slice qad qn qc] 34 (0, 0))) := hM
        have hz46 : W4.heap.size < W6.heap.size := (Array.getElem?_eq_some_iff.1 hM).1
        have HRK6 : Hid (RowsOf 2 CaseC W6 (.slice mad (cn + 1) mc) (keys ++ [a1])) := more_rows HCN.out (by omega) HCF.out hown
        have HB6 : Hid (Below W4.heap.size W4 W6) := hbl
        have HW6 : Hid (Below w.heap.size w W6) := HW4.out.trans (HB6.out.mono HW4.out.size)
        have HRL6 : Hid (W6.heap[w.heap.size]? = some (.cells #[x0, x1, x2, x3, x4, x5, x6, x7, x8, x9, x10, x11, x12, x13, x14, x15] 30 (0, 0))) := (HB6.out.block _ (by omega)).trans HRL4.out
        have HRP6 : Hid (W6.heap[w.heap.size + 1]? = some (.cells #[.int .i64 kind, .string s1, .string name, .string s3, .slice cad cn cc, .slice qad qn qc] 34 (0, 0))) := (HB6.out.block _ (by omega)).trans HRP4.out
        have HRA6 : Hid (W6.heap[w.heap.size + 2]? = some (.cells #[.string a0, .string a1] 47 (0, 0))) := (HB6.out.block _ (by omega)).trans HRA4.out
        have HRV6 : Hid (W6.heap[W1.heap.size]? = some (.cells #[.string name, .int .i64 1, .string a0, .int .i64 0, .slice none 0 0] 46 (0, 0))) := (HB6.out.block _ (by omega)).trans HRV4.out
        have hz6 : W1.heap.size < W6.heap.size := by have := HB6.out.size; omega
        clear hM hown hbl pW5 aW5 hzW5
        rename_i K9 hK9
        refine hK9 _ _ ?_
        clear hK9
        exact more_mid_sel kind ci di ce de cn cc qn qc cq cad qad name s1 s3 a0 a1 cs 1 x0 x1 x2 x3 x4 x5 x6 x7 x8 x9 x10 x11 x12 x13 x14 x15 keys mad mc _ _ _ _ _ _ _ _ _ _ _ _ _ _ _ _ _ _ _ _ _ _ _ _ _ _ _ _ _ _ _ _ _ _ _ _ _ _ _ _ _ _ _ _ _ _ _ _ _ _ _ _ _ _ _ _ _ _ _ _ _ _ _ _ _ _ _ _ _ _ _ _ _ _ _ _ _ _ _ _ _ _ _ _ _ _ _ _ _ _ _ _ _ _ _ _ _ _ _ _ _ _ _ _ _ _ _ _ _ _ _ _ _ _ _ _ _ _ _ _ _ _ _ _ _ _ _ w W1 W4 W6 hs0 HK9 HMORE HCL HC1 HC2 HW6 HRL6 HRP6 HRA6 HRV6 HRM6 HRK6 hz1 hz4 hz46
end Go.Proofs.YtadhblppeaamlaaGreatDoor
