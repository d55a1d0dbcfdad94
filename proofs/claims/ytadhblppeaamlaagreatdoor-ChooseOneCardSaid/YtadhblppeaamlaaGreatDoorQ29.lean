/- ChooseOne: the case that is chosen, and the key that Key answers. -/
import Derived.Test.YtadhblppeaamlaaGreatDoorQ24
import Derived.Test.YtadhblppeaamlaaGreatDoorQ25
namespace Go.Proofs.YtadhblppeaamlaaGreatDoor
open Go.RowKit
attribute [local go_sem] Ext.cell Ext.frozen
attribute [local go_sem ↓] Go.wp_at_zero Go.wp_at_succ

theorem row_otherD {w : World} {B B' : Nat} {o : Obj} {j : Nat} {v : Value} (hb : w.heap[B]? = some o) (h : B' ≠ B) : (w.setCell ⟨B', j, none⟩ v).heap[B]? = some o := by
  simp [World.setCell, Array.getElem?_modify, hb, h]
set_option maxRecDepth 20000 in
set_option maxHeartbeats 32000000 in
theorem chooseOne_walk (x p y : Nat → Value) (a b : List (ByteArray × List (List Rel))) (d : Nat) (kind : Int) (name : ByteArray) (keys : List ByteArray) (v : Vl) (w : World) (h : LocC w x a b) (hp : PartK d w p kind name keys) (hv : ValC w y v) :
    Calls Tryz.prog 6 #[.agg #[x 0, x 1, x 2, x 3, x 4, x 5, x 6, x 7, x 8, x 9, x 10, x 11, x 12, x 13, x 14, x 15], .agg #[p 0, p 1, p 2, p 3, p 4, p 5], .agg #[y 0, y 1, y 2, y 3, y 4]] w fun e w' => e = .returned (.bool true) ∧ Below w.heap.size w w' := by
  obtain ⟨vnm, vty, vtx, vdt, vli⟩ := v
  obtain ⟨y0, _, y1, y2, ys2, y3, y4⟩ := id hv
  obtain ⟨ad4, c4, hy4⟩ : ∃ ad4 c4, y 4 = .slice ad4 vli.length c4 := by obtain ⟨ad4, c4, _, _, _, e, _⟩ := y4; exact ⟨ad4, c4, e⟩
  obtain ⟨vn, hvn⟩ : ∃ vn, vli.length = vn := ⟨_, rfl⟩
  simp only at y0 y1 y2 y3 y4 ys2
  rw [hvn] at hy4
  rw [hy4] at y4
  have HA := Lib.hid awake31_any
  have hvs : ∀ W e, Below w.heap.size w W → ValsAt (W.alloc (.cells #[.string name, .int .i64 vty, .string vtx, .int .i64 vdt, .slice ad4 vn c4] e)) (.slice (some ⟨W.heap.size, 0, none⟩) 1 1) [⟨name, vty, vtx, vdt, vli⟩] := fun W e g => rows_one (g := fun j => (#[.string name, .int .i64 vty, .string vtx, .int .i64 vdt, .slice ad4 vn c4] : Array Value).getD j undef) (fun j hj => by
    rcases (by omega : j = 0 ∨ j = 1 ∨ j = 2 ∨ j = 3 ∨ j = 4) with e | e | e | e | e <;> subst e <;> simp [go_sem]) ⟨rfl, hp.ks, rfl, rfl, ys2, rfl, y4.map (g.trans ((Below.refl _ _).alloc (g.size) _)) fun _ _ h => h⟩
  have hself := get_self ⟨name, vty, vtx, vdt, vli⟩
  have hbW : ∀ W (e : TypeId), Below w.heap.size w W → Below w.heap.size w (W.alloc (.cells #[.string name, .int .i64 vty, .string vtx, .int .i64 vdt, .slice ad4 vn c4] e)) := fun W e g => g.trans ((Below.refl _ _).alloc g.size _)
  have HF : Hid (∀ W B e, Below w.heap.size w W → B = W.heap.size → Calls Tryz.prog 10 #[.agg #[x 0, x 1, x 2, x 3, x 4, x 5, x 6, x 7, x 8, x 9, x 10, x 11, x 12, x 13, x 14, x 15], .agg #[p 0, p 1, p 2, p 3, p 4, p 5], .slice (some ⟨B, 0, none⟩) 1 1] (W.alloc (.cells #[.string name, .int .i64 vty, .string vtx, .int .i64 vdt, .slice ad4 vn c4] e)) (BoolIfB (W.alloc (.cells #[.string name, .int .i64 vty, .string vtx, .int .i64 vdt, .slice ad4 vn c4] e)) (FewC a ∧ FewC b ∧ FewV2 [⟨name, vty, vtx, vdt, vli⟩]))) := fun W B e g hB => by
    subst hB
    exact few31_any x p a b _ _ d _ (h.below (hbW W e g)) (hp.tree.below (hbW W e g)) (hvs W e g)
  have HC : Hid (FewC a → FewC b → FewV2 [⟨name, vty, vtx, vdt, vli⟩] → ∀ W e, Below w.heap.size w W → Calls Tryz.prog 11 #[.agg #[x 0, x 1, x 2, x 3, x 4, x 5, x 6, x 7, x 8, x 9, x 10, x 11, x 12, x 13, x 14, x 15], .agg #[p 0, p 1, p 2, p 3, p 4, p 5], .slice (some ⟨W.heap.size, 0, none⟩) 1 1] (W.alloc (.cells #[.string name, .int .i64 vty, .string vtx, .int .i64 vdt, .slice ad4 vn c4] e)) fun e' w' => e' = .returned (.tuple #[.int .i64 (chooseW kind (rulesV kind a b) keys true ⟨name, vty, vtx, vdt, vli⟩).1, .int .i64 ((chooseW kind (rulesV kind a b) keys true ⟨name, vty, vtx, vdt, vli⟩).2 : Nat)]) ∧ Below (W.alloc (.cells #[.string name, .int .i64 vty, .string vtx, .int .i64 vdt, .slice ad4 vn c4] e)).heap.size (W.alloc (.cells #[.string name, .int .i64 vty, .string vtx, .int .i64 vdt, .slice ad4 vn c4] e)) w') := fun ha hb hf W e g => by
    have := choose_any x p a b d kind name keys _ _ _ (h.below (hbW W e g)) (hp.below (hbW W e g)) (hvs W e g) hf.1 ha hb
    rw [hself.1, hself.2] at this
    exact this
  have HKY : Hid (∀ W, Below w.heap.size w W → Calls Tryz.prog 14 #[.agg #[p 0, p 1, p 2, p 3, p 4, p 5]] W (WantP W keys)) := fun W g => rkeys_any p keys W (hp.k4.map g fun _ _ h => h) (by have := hp.kl; omega)
  have HK : Hid (FewC a → FewC b → vtx.size ≤ 1000 → ∀ W kad kn kc, Below w.heap.size w W → Sl W kad kn (strs keys) → Calls Tryz.prog 17 #[.agg #[x 0, x 1, x 2, x 3, x 4, x 5, x 6, x 7, x 8, x 9, x 10, x 11, x 12, x 13, x 14, x 15], .int .i64 kind, .slice kad kn kc, .agg #[.string name, .int .i64 vty, .string vtx, .int .i64 vdt, .slice ad4 vn c4]] W fun e w' => e = .returned (.tuple #[.string (keyV kind (rulesV kind a b) keys ⟨name, vty, vtx, vdt, vli⟩).1, .int .i64 ((keyV kind (rulesV kind a b) keys ⟨name, vty, vtx, vdt, vli⟩).2 : Nat)]) ∧ Below W.heap.size W w') := fun ha hb hs W kad kn kc g hk =>
    ckey_any x (fun j => (#[.string name, .int .i64 vty, .string vtx, .int .i64 vdt, .slice ad4 vn c4] : Array Value).getD j undef) a b kind kad kn kc keys ⟨name, vty, vtx, vdt, vli⟩ W (h.below g) hk ⟨rfl, hp.ks, rfl, rfl, ys2, rfl, y4.map g fun _ _ h => h⟩ ha hb hs
  have HIN : Hid (∀ W kad kn kc, Sl W kad kn (strs keys) → Calls Tryz.prog 13 #[.slice kad kn kc, .string ⟨#[111, 116, 104, 101, 114]⟩] W fun e w' => e = .returned (.bool (keys.contains otherB)) ∧ W = w') := fun W kad kn kc hk => rin_str kad kn kc keys otherB W hk
  have hone := one_law kind (rulesV kind a b) keys ⟨name, vty, vtx, vdt, vli⟩
  obtain ⟨cad, cc, cf, cb, coff, hp4, hcr, _, _, _, hcf⟩ := id hp.k4
  have hp0 := hp.k0
  have hp2 := hp.k2
  obtain ⟨cn, hcn⟩ : ∃ n, keys.length = n := ⟨_, rfl⟩
  rw [hcn] at hp4 hcr
  have HCN := Lib.hid hcn
  have HCR := Lib.hid hcr
  have HCF := Lib.hid hcf
  have HONE := Lib.hid hone
  clear h hp hv hvs hbW hself hcn hcr hcf hone y4 hvn
  generalize chooseW kind (rulesV kind a b) keys true ⟨name, vty, vtx, vdt, vli⟩ = cw at *
  generalize keyV kind (rulesV kind a b) keys ⟨name, vty, vtx, vdt, vli⟩ = kv at *
  obtain ⟨ci, ce⟩ := cw
  obtain ⟨ka, kf⟩ := kv
  simp only at HC HK
  rw [Hid] at HONE
  simp only at HONE
  replace HONE := Lib.hid HONE
  rw [Hid, hp0, hp2, hp4] at HF HC HKY
  replace HF := Lib.hid HF
  replace HC := Lib.hid HC
  replace HKY := Lib.hid HKY
  rw [hp0, hp2, hp4, y0, y1, y2, y3, hy4]
  clear hp0 hp2 hp4 y0 y1 y2 y3 hy4
  generalize x 0 = x0 at *
  generalize x 1 = x1 at *
  generalize x 2 = x2 at *
  generalize x 3 = x3 at *
  generalize x 4 = x4 at *
  generalize x 5 = x5 at *
  generalize x 6 = x6 at *
  generalize x 7 = x7 at *
  generalize x 8 = x8 at *
  generalize x 9 = x9 at *
  generalize x 10 = x10 at *
  generalize x 11 = x11 at *
  generalize x 12 = x12 at *
  generalize x 13 = x13 at *
  generalize x 14 = x14 at *
  generalize x 15 = x15 at *
  generalize p 1 = p1 at *
  generalize p 3 = p3 at *
  generalize p 5 = p5 at *
  generalize y 0 = yy0 at *
  go_enter Tryz.func6, Tryz.ntmps6
  go_wp2_with fail
  refine (HA.out _).mono ?_
  rintro e W1 ⟨rfl, hb1⟩
  have HW1 : Hid (Below w.heap.size w W1) := Below.trans (by show Bel w _; exact (((Bel.refl _).alloc _).alloc _).alloc _) (hb1.mono (by simp; omega))
  have HRL1 : Hid (W1.heap[w.heap.size]? = some (.cells #[x0, x1, x2, x3, x4, x5, x6, x7, x8, x9, x10, x11, x12, x13, x14, x15] 30 (0, 0))) := (hb1.block _ (by simp; omega)).trans ((Below.heap_alloc _ _ _ (by simp; omega)).trans ((Below.heap_alloc _ _ _ (by simp)).trans (row_first w _ _)))
  have HRP1 : Hid (W1.heap[w.heap.size + 1]? = some (.cells #[.int .i64 kind, p1, .string name, p3, .slice cad cn cc, p5] 34 (0, 0))) := (hb1.block _ (by simp)).trans ((Below.heap_alloc _ _ _ (by simp)).trans (row_second w _ _ _))
  have HRV1 : Hid (W1.heap[w.heap.size + 2]? = some (.cells #[.string vnm, .int .i64 vty, .string vtx, .int .i64 vdt, .slice ad4 vn c4] 46 (0, 0))) := (hb1.block _ (by simp)).trans (row_three w _ _ _ _)
  have hz1 : w.heap.size + 2 < W1.heap.size := by have := hb1.size; simp at this; omega
  have o10 : w.heap.size < W1.heap.size := by omega
  have o11 : w.heap.size + 1 < W1.heap.size := by omega
  have fz1 : (W1.frozen? ⟨w.heap.size + 2, 0, none⟩) = false := row_fz6 HRV1.out 0
  clear hb1
  have lq0 : W1.cell? ⟨w.heap.size, 0, none⟩ = some (x0) := by rw [Lib.cell_of_heap HRL1.out]; rfl
  have lq1 : W1.cell? ⟨w.heap.size, 1, none⟩ = some (x1) := by rw [Lib.cell_of_heap HRL1.out]; rfl
  have lq2 : W1.cell? ⟨w.heap.size, 2, none⟩ = some (x2) := by rw [Lib.cell_of_heap HRL1.out]; rfl
  have lq3 : W1.cell? ⟨w.heap.size, 3, none⟩ = some (x3) := by rw [Lib.cell_of_heap HRL1.out]; rfl
  have lq4 : W1.cell? ⟨w.heap.size, 4, none⟩ = some (x4) := by rw [Lib.cell_of_heap HRL1.out]; rfl
  have lq5 : W1.cell? ⟨w.heap.size, 5, none⟩ = some (x5) := by rw [Lib.cell_of_heap HRL1.out]; rfl
  have lq6 : W1.cell? ⟨w.heap.size, 6, none⟩ = some (x6) := by rw [Lib.cell_of_heap HRL1.out]; rfl
  have lq7 : W1.cell? ⟨w.heap.size, 7, none⟩ = some (x7) := by rw [Lib.cell_of_heap HRL1.out]; rfl
  have lq8 : W1.cell? ⟨w.heap.size, 8, none⟩ = some (x8) := by rw [Lib.cell_of_heap HRL1.out]; rfl
  have lq9 : W1.cell? ⟨w.heap.size, 9, none⟩ = some (x9) := by rw [Lib.cell_of_heap HRL1.out]; rfl
  have lq10 : W1.cell? ⟨w.heap.size, 10, none⟩ = some (x10) := by rw [Lib.cell_of_heap HRL1.out]; rfl
  have lq11 : W1.cell? ⟨w.heap.size, 11, none⟩ = some (x11) := by rw [Lib.cell_of_heap HRL1.out]; rfl
  have lq12 : W1.cell? ⟨w.heap.size, 12, none⟩ = some (x12) := by rw [Lib.cell_of_heap HRL1.out]; rfl
  have lq13 : W1.cell? ⟨w.heap.size, 13, none⟩ = some (x13) := by rw [Lib.cell_of_heap HRL1.out]; rfl
  have lq14 : W1.cell? ⟨w.heap.size, 14, none⟩ = some (x14) := by rw [Lib.cell_of_heap HRL1.out]; rfl
  have lq15 : W1.cell? ⟨w.heap.size, 15, none⟩ = some (x15) := by rw [Lib.cell_of_heap HRL1.out]; rfl
  have pq0 : W1.cell? ⟨w.heap.size + 1, 0, none⟩ = some (.int .i64 kind) := by rw [Lib.cell_of_heap HRP1.out]; rfl
  have pq1 : W1.cell? ⟨w.heap.size + 1, 1, none⟩ = some (p1) := by rw [Lib.cell_of_heap HRP1.out]; rfl
  have pq2 : W1.cell? ⟨w.heap.size + 1, 2, none⟩ = some (.string name) := by rw [Lib.cell_of_heap HRP1.out]; rfl
  have pq3 : W1.cell? ⟨w.heap.size + 1, 3, none⟩ = some (p3) := by rw [Lib.cell_of_heap HRP1.out]; rfl
  have pq4 : W1.cell? ⟨w.heap.size + 1, 4, none⟩ = some (.slice cad cn cc) := by rw [Lib.cell_of_heap HRP1.out]; rfl
  have pq5 : W1.cell? ⟨w.heap.size + 1, 5, none⟩ = some (p5) := by rw [Lib.cell_of_heap HRP1.out]; rfl
  have vq0 : W1.cell? ⟨w.heap.size + 2, 0, none⟩ = some (.string vnm) := by rw [Lib.cell_of_heap HRV1.out]; rfl
  have vq1 : W1.cell? ⟨w.heap.size + 2, 1, none⟩ = some (.int .i64 vty) := by rw [Lib.cell_of_heap HRV1.out]; rfl
  have vq2 : W1.cell? ⟨w.heap.size + 2, 2, none⟩ = some (.string vtx) := by rw [Lib.cell_of_heap HRV1.out]; rfl
  have vq3 : W1.cell? ⟨w.heap.size + 2, 3, none⟩ = some (.int .i64 vdt) := by rw [Lib.cell_of_heap HRV1.out]; rfl
  have vq4 : W1.cell? ⟨w.heap.size + 2, 4, none⟩ = some (.slice ad4 vn c4) := by rw [Lib.cell_of_heap HRV1.out]; rfl
  go_wp2_with fail
  obtain ⟨W2, hW2⟩ : ∃ W2, W2 = W1.setCell ⟨w.heap.size + 2, 0, none⟩ (.string name) := ⟨_, rfl⟩
  rw [← hW2]
  have HW2 : Hid (Below w.heap.size w W2) := by rw [Hid, hW2]; exact Bel.setCell HW1.out _ _ (by show w.heap.size ≤ w.heap.size + 2; omega)
  have HRL2 : Hid (W2.heap[w.heap.size]? = some (.cells #[x0, x1, x2, x3, x4, x5, x6, x7, x8, x9, x10, x11, x12, x13, x14, x15] 30 (0, 0))) := by rw [Hid, hW2]; exact row_otherD HRL1.out (by omega)
  have HRP2 : Hid (W2.heap[w.heap.size + 1]? = some (.cells #[.int .i64 kind, p1, .string name, p3, .slice cad cn cc, p5] 34 (0, 0))) := by rw [Hid, hW2]; exact row_otherD HRP1.out (by omega)
  have HRV2 : Hid (W2.heap[w.heap.size + 2]? = some (.cells #[.string name, .int .i64 vty, .string vtx, .int .i64 vdt, .slice ad4 vn c4] 46 (0, 0))) := by rw [Hid, hW2]; exact row_st6 HRV1.out 0 _
  have hs2 : W1.heap.size = W2.heap.size := by rw [hW2]; simp
  have HS2 := Lib.hid hs2
  clear hW2 hs2 fz1
  clear lq0 lq1 lq2 lq3 lq4 lq5 lq6 lq7 lq8 lq9 lq10 lq11 lq12 lq13 lq14 lq15 pq0 pq1 pq2 pq3 pq4 pq5 vq0 vq1 vq2 vq3 vq4
  refine (HF.out _ _ _ HW2.out HS2.out).mono ?_
  rintro e W3 ⟨qa, rfl, hb3, hqa⟩
  have HQA := Lib.hid hqa
  have HBA : Hid (Below W2.heap.size W2 (W2.alloc (.cells #[.string name, .int .i64 vty, .string vtx, .int .i64 vdt, .slice ad4 vn c4] 46))) := (Below.refl _ _).alloc (Nat.le_refl _) _
  have o23 : w.heap.size + 2 < W2.heap.size := by have := HS2.out; omega
  have HB3 : Hid (Below W2.heap.size W2 W3) := HBA.out.trans (hb3.mono (by simp))
  have HW3 : Hid (Below w.heap.size w W3) := HW2.out.trans (HB3.out.mono HW2.out.size)
  have HRL3 : Hid (W3.heap[w.heap.size]? = some (.cells #[x0, x1, x2, x3, x4, x5, x6, x7, x8, x9, x10, x11, x12, x13, x14, x15] 30 (0, 0))) := (HB3.out.block _ (by omega)).trans HRL2.out
  have HRP3 : Hid (W3.heap[w.heap.size + 1]? = some (.cells #[.int .i64 kind, p1, .string name, p3, .slice cad cn cc, p5] 34 (0, 0))) := (HB3.out.block _ (by omega)).trans HRP2.out
  have HRV3 : Hid (W3.heap[w.heap.size + 2]? = some (.cells #[.string name, .int .i64 vty, .string vtx, .int .i64 vdt, .slice ad4 vn c4] 46 (0, 0))) := (HB3.out.block _ (by omega)).trans HRV2.out
  have hz3 : w.heap.size + 2 < W3.heap.size := by have := HB3.out.size; omega
  clear hb3 hqa
  cases qa with
  | false =>
    go_wp2_with fail
    go_ret
    exact ⟨rfl, HW3.out⟩
  | true =>
    obtain ⟨hfa, hfb, hfv⟩ := HQA.out rfl
    replace HC := Lib.hid (HC.out hfa hfb hfv)
    replace HK := Lib.hid (HK.out hfa hfb (by have h9 := (hfv.1 _ (List.mem_cons_self ..)).1; exact Nat.le_trans h9 (by omega)))
    clear hfa hfb hfv HQA
    have o30 : w.heap.size < W3.heap.size := by omega
    have o31 : w.heap.size + 1 < W3.heap.size := by omega
    have lq0 : W3.cell? ⟨w.heap.size, 0, none⟩ = some (x0) := by rw [Lib.cell_of_heap HRL3.out]; rfl
    have lq1 : W3.cell? ⟨w.heap.size, 1, none⟩ = some (x1) := by rw [Lib.cell_of_heap HRL3.out]; rfl
    have lq2 : W3.cell? ⟨w.heap.size, 2, none⟩ = some (x2) := by rw [Lib.cell_of_heap HRL3.out]; rfl
    have lq3 : W3.cell? ⟨w.heap.size, 3, none⟩ = some (x3) := by rw [Lib.cell_of_heap HRL3.out]; rfl
    have lq4 : W3.cell? ⟨w.heap.size, 4, none⟩ = some (x4) := by rw [Lib.cell_of_heap HRL3.out]; rfl
    have lq5 : W3.cell? ⟨w.heap.size, 5, none⟩ = some (x5) := by rw [Lib.cell_of_heap HRL3.out]; rfl
    have lq6 : W3.cell? ⟨w.heap.size, 6, none⟩ = some (x6) := by rw [Lib.cell_of_heap HRL3.out]; rfl
    have lq7 : W3.cell? ⟨w.heap.size, 7, none⟩ = some (x7) := by rw [Lib.cell_of_heap HRL3.out]; rfl
    have lq8 : W3.cell? ⟨w.heap.size, 8, none⟩ = some (x8) := by rw [Lib.cell_of_heap HRL3.out]; rfl
    have lq9 : W3.cell? ⟨w.heap.size, 9, none⟩ = some (x9) := by rw [Lib.cell_of_heap HRL3.out]; rfl
    have lq10 : W3.cell? ⟨w.heap.size, 10, none⟩ = some (x10) := by rw [Lib.cell_of_heap HRL3.out]; rfl
    have lq11 : W3.cell? ⟨w.heap.size, 11, none⟩ = some (x11) := by rw [Lib.cell_of_heap HRL3.out]; rfl
    have lq12 : W3.cell? ⟨w.heap.size, 12, none⟩ = some (x12) := by rw [Lib.cell_of_heap HRL3.out]; rfl
    have lq13 : W3.cell? ⟨w.heap.size, 13, none⟩ = some (x13) := by rw [Lib.cell_of_heap HRL3.out]; rfl
    have lq14 : W3.cell? ⟨w.heap.size, 14, none⟩ = some (x14) := by rw [Lib.cell_of_heap HRL3.out]; rfl
    have lq15 : W3.cell? ⟨w.heap.size, 15, none⟩ = some (x15) := by rw [Lib.cell_of_heap HRL3.out]; rfl
    have pq0 : W3.cell? ⟨w.heap.size + 1, 0, none⟩ = some (.int .i64 kind) := by rw [Lib.cell_of_heap HRP3.out]; rfl
    have pq1 : W3.cell? ⟨w.heap.size + 1, 1, none⟩ = some (p1) := by rw [Lib.cell_of_heap HRP3.out]; rfl
    have pq2 : W3.cell? ⟨w.heap.size + 1, 2, none⟩ = some (.string name) := by rw [Lib.cell_of_heap HRP3.out]; rfl
    have pq3 : W3.cell? ⟨w.heap.size + 1, 3, none⟩ = some (p3) := by rw [Lib.cell_of_heap HRP3.out]; rfl
    have pq4 : W3.cell? ⟨w.heap.size + 1, 4, none⟩ = some (.slice cad cn cc) := by rw [Lib.cell_of_heap HRP3.out]; rfl
    have pq5 : W3.cell? ⟨w.heap.size + 1, 5, none⟩ = some (p5) := by rw [Lib.cell_of_heap HRP3.out]; rfl
    have vq0 : W3.cell? ⟨w.heap.size + 2, 0, none⟩ = some (.string name) := by rw [Lib.cell_of_heap HRV3.out]; rfl
    have vq1 : W3.cell? ⟨w.heap.size + 2, 1, none⟩ = some (.int .i64 vty) := by rw [Lib.cell_of_heap HRV3.out]; rfl
    have vq2 : W3.cell? ⟨w.heap.size + 2, 2, none⟩ = some (.string vtx) := by rw [Lib.cell_of_heap HRV3.out]; rfl
    have vq3 : W3.cell? ⟨w.heap.size + 2, 3, none⟩ = some (.int .i64 vdt) := by rw [Lib.cell_of_heap HRV3.out]; rfl
    have vq4 : W3.cell? ⟨w.heap.size + 2, 4, none⟩ = some (.slice ad4 vn c4) := by rw [Lib.cell_of_heap HRV3.out]; rfl
    go_wp2_with fail
    refine (HC.out _ _ HW3.out).mono ?_
    rintro e W4 ⟨rfl, hb4⟩
    have HBB : Hid (Below W3.heap.size W3 (W3.alloc (.cells #[.string name, .int .i64 vty, .string vtx, .int .i64 vdt, .slice ad4 vn c4] 46))) := (Below.refl _ _).alloc (Nat.le_refl _) _
    have HB4 : Hid (Below W3.heap.size W3 W4) := HBB.out.trans (hb4.mono (by simp))
    have HW4 : Hid (Below w.heap.size w W4) := HW3.out.trans (HB4.out.mono HW3.out.size)
    have HRL4 : Hid (W4.heap[w.heap.size]? = some (.cells #[x0, x1, x2, x3, x4, x5, x6, x7, x8, x9, x10, x11, x12, x13, x14, x15] 30 (0, 0))) := (HB4.out.block _ (by omega)).trans HRL3.out
    have HRP4 : Hid (W4.heap[w.heap.size + 1]? = some (.cells #[.int .i64 kind, p1, .string name, p3, .slice cad cn cc, p5] 34 (0, 0))) := (HB4.out.block _ (by omega)).trans HRP3.out
    have HRV4 : Hid (W4.heap[w.heap.size + 2]? = some (.cells #[.string name, .int .i64 vty, .string vtx, .int .i64 vdt, .slice ad4 vn c4] 46 (0, 0))) := (HB4.out.block _ (by omega)).trans HRV3.out
    have hz4 : w.heap.size + 2 < W4.heap.size := by have := HB4.out.size; omega
    clear hb4
    clear lq0 lq1 lq2 lq3 lq4 lq5 lq6 lq7 lq8 lq9 lq10 lq11 lq12 lq13 lq14 lq15 pq0 pq1 pq2 pq3 pq4 pq5 vq0 vq1 vq2 vq3 vq4
    have o40 : w.heap.size < W4.heap.size := by omega
    have o41 : w.heap.size + 1 < W4.heap.size := by omega
    go_wp2_with fail
    refine wp_region_held_drew (S := fun w' => Below W4.heap.size W4 w') (by kernel_rfl) ((Below.refl _ _).drew) (fun hHeld => ?_)
    refine wpAnyH_take (i := 0) (v := ?_) rfl (by kernel_rfl) (by kernel_rfl) (by kernel_rfl) (fun _ _ _ h => h) (Or.inl ⟨by kernel_rfl, ?_⟩) hHeld ?_
    rotate_left
    · (intro wx hSw; (try dsimp only at hSw); have hrx := (hSw.block w.heap.size (by omega)).trans HRL4.out; have k0 := Lib.cell_of_heap (j := 0) hrx; have k1 := Lib.cell_of_heap (j := 1) hrx; have k2 := Lib.cell_of_heap (j := 2) hrx; have k3 := Lib.cell_of_heap (j := 3) hrx; have k4 := Lib.cell_of_heap (j := 4) hrx; have k5 := Lib.cell_of_heap (j := 5) hrx; have k6 := Lib.cell_of_heap (j := 6) hrx; have k7 := Lib.cell_of_heap (j := 7) hrx; have k8 := Lib.cell_of_heap (j := 8) hrx; have k9 := Lib.cell_of_heap (j := 9) hrx; have k10 := Lib.cell_of_heap (j := 10) hrx; have k11 := Lib.cell_of_heap (j := 11) hrx; have k12 := Lib.cell_of_heap (j := 12) hrx; have k13 := Lib.cell_of_heap (j := 13) hrx; have k14 := Lib.cell_of_heap (j := 14) hrx; have k15 := Lib.cell_of_heap (j := 15) hrx; simp [] at k0 k1 k2 k3 k4 k5 k6 k7 k8 k9 k10 k11 k12 k13 k14 k15; go_simp; try with_reducible rfl)
    simp only [Act.put, List.getElem_toArray, List.getElem_cons_zero, List.setIfInBounds_toArray, List.set_cons_zero, List.set_cons_succ]
    refine wpAnyH_take (i := 1) (v := ?_) rfl (by kernel_rfl) (by kernel_rfl) (by kernel_rfl) (fun _ _ _ h => h) (Or.inl ⟨by kernel_rfl, ?_⟩) hHeld ?_
    rotate_left
    · (intro wx hSw; (try dsimp only at hSw); go_simp; try with_reducible rfl)
    simp only [Act.put, List.getElem_toArray, List.getElem_cons_succ, List.getElem_cons_zero, List.setIfInBounds_toArray, List.set_cons_zero, List.set_cons_succ]
    refine wpAnyH_take (i := 2) (v := ?_) rfl (by kernel_rfl) (by kernel_rfl) (by kernel_rfl) (fun _ _ _ h => h) (Or.inl ⟨by kernel_rfl, ?_⟩) hHeld ?_
    rotate_left
    · (intro wx hSw; (try dsimp only at hSw); have hrx := (hSw.block (w.heap.size + 1) (by omega)).trans HRP4.out; have k0 := Lib.cell_of_heap (j := 0) hrx; simp [] at k0; go_simp; try with_reducible rfl)
    simp only [Act.put, List.getElem_toArray, List.getElem_cons_succ, List.getElem_cons_zero, List.setIfInBounds_toArray, List.set_cons_zero, List.set_cons_succ]
    refine wpAnyH_take (i := 3) (v := ?_) rfl (by kernel_rfl) (by kernel_rfl) (by kernel_rfl) (fun _ _ _ h => h) (Or.inl ⟨by kernel_rfl, ?_⟩) hHeld ?_
    rotate_left
    · (intro wx hSw; (try dsimp only at hSw); have hrx := (hSw.block (w.heap.size + 1) (by omega)).trans HRP4.out; have k0 := Lib.cell_of_heap (j := 0) hrx; have k1 := Lib.cell_of_heap (j := 1) hrx; have k2 := Lib.cell_of_heap (j := 2) hrx; have k3 := Lib.cell_of_heap (j := 3) hrx; have k4 := Lib.cell_of_heap (j := 4) hrx; have k5 := Lib.cell_of_heap (j := 5) hrx; simp [] at k0 k1 k2 k3 k4 k5; go_simp; try with_reducible rfl)
    simp only [Act.put, List.getElem_toArray, List.getElem_cons_succ, List.getElem_cons_zero, List.setIfInBounds_toArray, List.set_cons_zero, List.set_cons_succ]
    refine wpAnyH_take (i := 5) (v := ?_) rfl (by kernel_rfl) (by kernel_rfl) (by kernel_rfl) (fun _ _ _ h => h) (Or.inl ⟨by kernel_rfl, ?_⟩) hHeld ?_
    rotate_left
    · (intro wx hSw; (try dsimp only at hSw); have hrx := (hSw.block (w.heap.size + 2) (by omega)).trans HRV4.out; have k0 := Lib.cell_of_heap (j := 0) hrx; have k1 := Lib.cell_of_heap (j := 1) hrx; have k2 := Lib.cell_of_heap (j := 2) hrx; have k3 := Lib.cell_of_heap (j := 3) hrx; have k4 := Lib.cell_of_heap (j := 4) hrx; simp [] at k0 k1 k2 k3 k4; go_simp; try with_reducible rfl)
    simp only [Act.put, List.getElem_toArray, List.getElem_cons_succ, List.getElem_cons_zero, List.setIfInBounds_toArray, List.set_cons_zero, List.set_cons_succ]
    refine wpAnyH_ready (rs := [4]) (by kernel_rfl) (by simp) ?_
    refine AllReadyH.cons rfl (fun K hK => ?_) AllReadyH.nil
    go_simp
    refine (HKY.out _ (HW4.out.trans (hHeld.mono HW4.out.size))).mono ?_
    rintro e wk ⟨kad, kn, kc, rfl, hslk, hbk⟩
    have HSK := Lib.hid hslk
    have HBK := Lib.hid hbk
    clear hslk hbk
    go_simp
    refine hK.out _ _ (hHeld.trans (HBK.out.mono hHeld.size)) (fun hHeld2 => ?_)
    clear hK K hHeld
    have hHeld := hHeld2
    clear hHeld2
    refine wpAnyH_ready (rs := [6]) (by kernel_rfl) (by simp) ?_
    refine AllReadyH.cons rfl (fun K hK => ?_) AllReadyH.nil
    go_simp
    refine (HK.out _ _ _ _ (HW4.out.trans (hHeld.mono HW4.out.size)) HSK.out).mono ?_
    rintro e wf ⟨rfl, hbf⟩
    have HBF := Lib.hid hbf
    clear hbf
    go_simp
    refine hK.out _ _ (hHeld.trans (HBF.out.mono hHeld.size)) (fun hHeld2 => ?_)
    clear hK K hHeld
    have hHeld := hHeld2
    clear hHeld2
    refine wpAnyH_take (i := 7) (v := ?_) rfl (by kernel_rfl) (by kernel_rfl) (by kernel_rfl) (fun _ _ _ h => h) (Or.inl ⟨by kernel_rfl, ?_⟩) hHeld ?_
    rotate_left
    · (intro wx hSw; (try dsimp only at hSw); go_simp; try with_reducible rfl)
    simp only [Act.put, List.getElem_toArray, List.getElem_cons_succ, List.getElem_cons_zero, List.setIfInBounds_toArray, List.set_cons_zero, List.set_cons_succ]
    refine wpAnyH_take (i := 8) (v := ?_) rfl (by kernel_rfl) (by kernel_rfl) (by kernel_rfl) (fun _ _ _ h => h) (Or.inl ⟨by kernel_rfl, ?_⟩) hHeld ?_
    rotate_left
    · (intro wx hSw; (try dsimp only at hSw); go_simp; try with_reducible rfl)
    simp only [Act.put, List.getElem_toArray, List.getElem_cons_succ, List.getElem_cons_zero, List.setIfInBounds_toArray, List.set_cons_zero, List.set_cons_succ]
    refine wpAnyH_take (i := 9) (v := ?_) rfl (by kernel_rfl) (by kernel_rfl) (by kernel_rfl) (fun _ _ _ h => h) (Or.inl ⟨by kernel_rfl, ?_⟩) hHeld ?_
    rotate_left
    · (intro wx hSw; (try dsimp only at hSw); go_simp; try with_reducible rfl)
    simp only [Act.put, List.getElem_toArray, List.getElem_cons_succ, List.getElem_cons_zero, List.setIfInBounds_toArray, List.set_cons_zero, List.set_cons_succ]
    refine wpAnyH_take (i := 10) (v := ?_) rfl (by kernel_rfl) (by kernel_rfl) (by kernel_rfl) (fun _ _ _ h => h) (Or.inl ⟨by kernel_rfl, ?_⟩) hHeld ?_
    rotate_left
    · (intro wx hSw; (try dsimp only at hSw); go_simp; try with_reducible rfl)
    simp only [Act.put, List.getElem_toArray, List.getElem_cons_succ, List.getElem_cons_zero, List.setIfInBounds_toArray, List.set_cons_zero, List.set_cons_succ]
    refine wpAnyH_take (i := 11) (v := ?_) rfl (by kernel_rfl) (by kernel_rfl) (by kernel_rfl) (fun _ _ _ h => h) (Or.inl ⟨by kernel_rfl, ?_⟩) hHeld ?_
    rotate_left
    · (intro wx hSw; (try dsimp only at hSw); go_simp; try with_reducible rfl)
    simp only [Act.put, List.getElem_toArray, List.getElem_cons_succ, List.getElem_cons_zero, List.setIfInBounds_toArray, List.set_cons_zero, List.set_cons_succ]
    refine wpAnyH_done (by kernel_rfl) ?_ _
    obtain ⟨W5, hW5⟩ : ∃ W5, W5 = wf := ⟨_, rfl⟩
    rw [← hW5]
    have HW5 : Hid (Below w.heap.size w W5) := by rw [hW5]; exact HW4.out.trans (hHeld.mono HW4.out.size)
    have HRL5 : Hid (W5.heap[w.heap.size]? = some (.cells #[x0, x1, x2, x3, x4, x5, x6, x7, x8, x9, x10, x11, x12, x13, x14, x15] 30 (0, 0))) := by rw [hW5]; exact (hHeld.block _ (by omega)).trans HRL4.out
    have HRP5 : Hid (W5.heap[w.heap.size + 1]? = some (.cells #[.int .i64 kind, p1, .string name, p3, .slice cad cn cc, p5] 34 (0, 0))) := by rw [hW5]; exact (hHeld.block _ (by omega)).trans HRP4.out
    have HRV5 : Hid (W5.heap[w.heap.size + 2]? = some (.cells #[.string name, .int .i64 vty, .string vtx, .int .i64 vdt, .slice ad4 vn c4] 46 (0, 0))) := by rw [hW5]; exact (hHeld.block _ (by omega)).trans HRV4.out
    have hz5 : w.heap.size + 2 < W5.heap.size := by rw [hW5]; have := hHeld.size; omega
    clear hW5 hHeld HBF HBK HSK
    have o50 : w.heap.size < W5.heap.size := by omega
    have o51 : w.heap.size + 1 < W5.heap.size := by omega
    by_cases he : ce = 0
    · obtain ⟨hkf, j, hj, hci, hka⟩ := HONE.out.2 he
      subst he
      subst hkf
      subst hci
      subst hka
      have hjn : j < cn := by have := HCN.out; omega
      have hrr := HCR.out.below HW5.out
      have hix := fun W => hrr.ix 31 44 Tryz.underlying31 (by kernel_rfl) (by omega) hjn cc W
      have d0 : W5.cell? ⟨cb, coff + j * 2, none⟩ = some (cf j 0) := hrr.cell j 0 hjn (by omega)
      have g0 := (RowsOf.get HCF.out hj ByteArray.empty).1
      rw [g0] at d0
      clear hrr g0 hj HONE HCF
      generalize keys.getD j .empty = kj at *
      have e1 : (kj.toList == kj.toList) = true := by simp
      have j0 : (0 : Int) ≤ (j : Int) := by omega
      have pq0 : W5.cell? ⟨w.heap.size + 1, 0, none⟩ = some (.int .i64 kind) := by rw [Lib.cell_of_heap HRP5.out]; rfl
      have pq1 : W5.cell? ⟨w.heap.size + 1, 1, none⟩ = some (p1) := by rw [Lib.cell_of_heap HRP5.out]; rfl
      have pq2 : W5.cell? ⟨w.heap.size + 1, 2, none⟩ = some (.string name) := by rw [Lib.cell_of_heap HRP5.out]; rfl
      have pq3 : W5.cell? ⟨w.heap.size + 1, 3, none⟩ = some (p3) := by rw [Lib.cell_of_heap HRP5.out]; rfl
      have pq4 : W5.cell? ⟨w.heap.size + 1, 4, none⟩ = some (.slice cad cn cc) := by rw [Lib.cell_of_heap HRP5.out]; rfl
      have pq5 : W5.cell? ⟨w.heap.size + 1, 5, none⟩ = some (p5) := by rw [Lib.cell_of_heap HRP5.out]; rfl
      go_wp2_with fail
      go_ret
      exact ⟨rfl, HW5.out⟩
    · obtain ⟨hkf, ho⟩ := HONE.out.1 he
      subst hkf
      have e0 : ((ce : Int) == 0) = false := by rw [beq_eq_false_iff_ne]; omega
      have e1 : ((ce : Int) != 0) = true := by rw [bne, e0]; rfl
      have e2 : ((ce : Int) == (ce : Int)) = true := by simp
      have pq0 : W5.cell? ⟨w.heap.size + 1, 0, none⟩ = some (.int .i64 kind) := by rw [Lib.cell_of_heap HRP5.out]; rfl
      have pq1 : W5.cell? ⟨w.heap.size + 1, 1, none⟩ = some (p1) := by rw [Lib.cell_of_heap HRP5.out]; rfl
      have pq2 : W5.cell? ⟨w.heap.size + 1, 2, none⟩ = some (.string name) := by rw [Lib.cell_of_heap HRP5.out]; rfl
      have pq3 : W5.cell? ⟨w.heap.size + 1, 3, none⟩ = some (p3) := by rw [Lib.cell_of_heap HRP5.out]; rfl
      have pq4 : W5.cell? ⟨w.heap.size + 1, 4, none⟩ = some (.slice cad cn cc) := by rw [Lib.cell_of_heap HRP5.out]; rfl
      have pq5 : W5.cell? ⟨w.heap.size + 1, 5, none⟩ = some (p5) := by rw [Lib.cell_of_heap HRP5.out]; rfl
      cases hcon : keys.contains otherB with
      | true =>
        have h13 := ho (List.contains_iff_mem.1 hcon)
        have e3 : ((ce : Int) == 13) = false := by rw [beq_eq_false_iff_ne]; omega
        have e4 : ((ce : Int) != 13) = true := by rw [bne, e3]; rfl
        rw [Hid, hcon] at HIN
        replace HIN := Lib.hid HIN
        clear hcon h13 ho HONE he
        go_wp2_with fail
        refine (HKY.out _ HW5.out).mono ?_
        rintro e W6 ⟨kad, kn, kc, rfl, hsl6, hb6⟩
        have HW6 : Hid (Below w.heap.size w W6) := HW5.out.trans (hb6.mono HW5.out.size)
        have HS6 := Lib.hid hsl6
        clear hsl6 hb6
        go_wp2_with fail
        refine (HIN.out _ _ _ _ HS6.out).mono ?_
        rintro e _ ⟨rfl, rfl⟩
        go_wp2_with fail
        go_ret
        exact ⟨rfl, HW6.out⟩
      | false =>
        rw [Hid, hcon] at HIN
        replace HIN := Lib.hid HIN
        clear hcon ho HONE he
        go_wp2_with fail
        refine (HKY.out _ HW5.out).mono ?_
        rintro e W6 ⟨kad, kn, kc, rfl, hsl6, hb6⟩
        have HW6 : Hid (Below w.heap.size w W6) := HW5.out.trans (hb6.mono HW5.out.size)
        have HS6 := Lib.hid hsl6
        clear hsl6 hb6
        go_wp2_with fail
        refine (HIN.out _ _ _ _ HS6.out).mono ?_
        rintro e _ ⟨rfl, rfl⟩
        go_wp2_with fail
        go_ret
        exact ⟨rfl, HW6.out⟩
end Go.Proofs.YtadhblppeaamlaaGreatDoor
