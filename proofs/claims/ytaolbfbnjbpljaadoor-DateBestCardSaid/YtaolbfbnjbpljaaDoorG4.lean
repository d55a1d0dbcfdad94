/- Walks: the kinds of fields and the distance, by the reference. -/
import Derived.Test.YtaolbfbnjbpljaaDoorG3
namespace Go.Proofs.YtaolbfbnjbpljaaDoor
open Go.RowKit
attribute [local go_sem] Ext.cell Ext.frozen
attribute [local go_sem ↓] Go.wp_at_zero Go.wp_at_succ

theorem kindA_snoc (fs : List (List UInt8)) (f : List UInt8) (i : Nat) : kindA (fs ++ [f]) i = (kindA fs i || (f.take 1 == [kindsL.getD i 0])) := by
  unfold kindA hds
  rw [List.map_append, List.contains_eq_any_beq, List.contains_eq_any_beq, List.any_append]
  simp [Bool.beq_comm]
theorem fld_head {f : List UInt8} (h : isFld f = true) : ∃ (i : Nat) (t : List UInt8), i < 4 ∧ f = kindsL.getD i 0 :: t := by
  unfold isFld fieldL at h
  rw [List.contains_iff_mem] at h
  simp only [List.mem_cons, List.not_mem_nil, or_false] at h
  rcases h with h | h | h | h | h | h | h <;> subst h
  · exact ⟨0, _, by omega, rfl⟩
  · exact ⟨1, _, by omega, rfl⟩
  · exact ⟨1, _, by omega, rfl⟩
  · exact ⟨1, _, by omega, rfl⟩
  · exact ⟨2, _, by omega, rfl⟩
  · exact ⟨3, _, by omega, rfl⟩
  · exact ⟨3, _, by omega, rfl⟩
/-- an array of four -/
def A4 (b0 b1 b2 b3 : Bool) : Value := .agg #[.bool b0, .bool b1, .bool b2, .bool b3]
def kindsL4 (fs : List (List UInt8)) : Value := A4 (kindA fs 0) (kindA fs 1) (kindA fs 2) (kindA fs 3)
theorem kindA_step {fs : List (List UInt8)} {k i : Nat} {t : List UInt8} (hk : k < fs.length) (hi : i < 4) (hf : fs.getD k [] = kindsL.getD i 0 :: t) (j : Nat) (hj : j < 4) :
    kindA (fs.take (k + 1)) j = if j = i then true else kindA (fs.take k) j := by
  have e1 : fs.getD k [] = fs[k] := by simp [List.getD, List.getElem?_eq_getElem hk]
  rw [List.take_succ_eq_append_getElem hk, kindA_snoc, ← e1, hf]
  have hi' : i = 0 ∨ i = 1 ∨ i = 2 ∨ i = 3 := by omega
  have hj' : j = 0 ∨ j = 1 ∨ j = 2 ∨ j = 3 := by omega
  rcases hi' with e | e | e | e <;> rcases hj' with e' | e' | e' | e' <;> subst e <;> subst e' <;> simp [kindsL]

/-- what holds of the array behind the first k fields -/
def KRel (w : World) (fs : List (List UInt8)) (n k : Nat) (wr : World) : Prop :=
  k ≤ n ∧ wr.cell? ⟨w.heap.size + 1, 0, none⟩ = some (.bool (kindA (fs.take k) 0)) ∧ wr.cell? ⟨w.heap.size + 1, 1, none⟩ = some (.bool (kindA (fs.take k) 1)) ∧
    wr.cell? ⟨w.heap.size + 1, 2, none⟩ = some (.bool (kindA (fs.take k) 2)) ∧ wr.cell? ⟨w.heap.size + 1, 3, none⟩ = some (.bool (kindA (fs.take k) 3)) ∧
    wr.cell? ⟨w.heap.size, 0, none⟩ = some (.bool false) ∧ wr.cell? ⟨w.heap.size, 1, none⟩ = some (.bool false) ∧ wr.cell? ⟨w.heap.size, 2, none⟩ = some (.bool false) ∧ wr.cell? ⟨w.heap.size, 3, none⟩ = some (.bool false) ∧
    (∀ o, wr.frozen? ⟨w.heap.size + 1, o, none⟩ = false) ∧ (∀ o, wr.frozen? ⟨w.heap.size, o, none⟩ = false) ∧ Below w.heap.size w wr
set_option maxRecDepth 20000 in
set_option maxHeartbeats 4000000 in
theorem rkinds_any (ad : Option Addr) (n c : Nat) (fs : List (List UInt8)) (w : World) (h : Sl w ad n (strs (fs.map bs))) (hf : ∀ f ∈ fs, isFld f = true) (hn : n ≤ 1000) :
    Calls Tryd.prog 34 #[.slice ad n c] w fun e w' => e = .returned (kindsL4 fs) ∧ Below w.heap.size w w' := by
  have HO := Lib.hid order_any
  have HF := Lib.hid hf
  obtain ⟨b, off, hsa⟩ := h
  have hlen : fs.length = n := by have := hsa.len; simpa [strs] using this
  have HSA := Lib.hid hsa
  have HLN := Lib.hid hlen
  have HIX := Lib.hid (fun k (hk : k < n) (W : World) => SlAt.ix (c := c) hsa 23 9 Tryd.underlying23 cellsStr2 hk W)
  have hblk : n ≠ 0 → b < w.heap.size := fun h => hsa.block h
  clear hsa hf hlen
  go_enter Tryd.func34, Tryd.ntmps34
  go_wp2_with fail
  refine wp_at_world ?_
  intro W hW
  have hWs : W.heap.size = w.heap.size + 2 := by rw [hW]; simp
  have HBW : Hid (Below w.heap.size w W) := by
    rw [hW]
    show Bel w _
    repeat (first | exact Bel.refl _ | refine Bel.alloc ?_ _ | refine Bel.setCell ?_ _ _ ?_ | exact Nat.le_refl _ | (simp; done) | omega)
  have c0 : W.cell? ⟨w.heap.size + 1, 0, none⟩ = some (.bool false) := by rw [hW]; simp [go_sem]
  have c1 : W.cell? ⟨w.heap.size + 1, 1, none⟩ = some (.bool false) := by rw [hW]; simp [go_sem]
  have c2 : W.cell? ⟨w.heap.size + 1, 2, none⟩ = some (.bool false) := by rw [hW]; simp [go_sem]
  have c3 : W.cell? ⟨w.heap.size + 1, 3, none⟩ = some (.bool false) := by rw [hW]; simp [go_sem]
  have d0 : W.cell? ⟨w.heap.size, 0, none⟩ = some (.bool false) := by rw [hW]; simp [go_sem]
  have d1 : W.cell? ⟨w.heap.size, 1, none⟩ = some (.bool false) := by rw [hW]; simp [go_sem]
  have d2 : W.cell? ⟨w.heap.size, 2, none⟩ = some (.bool false) := by rw [hW]; simp [go_sem]
  have d3 : W.cell? ⟨w.heap.size, 3, none⟩ = some (.bool false) := by rw [hW]; simp [go_sem]
  have cf : ∀ o, W.frozen? ⟨w.heap.size + 1, o, none⟩ = false := by intro o; rw [hW]; simp [go_sem]
  have df : ∀ o, W.frozen? ⟨w.heap.size, o, none⟩ = false := by intro o; rw [hW]; simp [go_sem]
  have HR0 : Hid (KRel w fs n 0 W) := ⟨Nat.zero_le _, c0, c1, c2, c3, d0, d1, d2, d3, cf, df, HBW.out⟩
  clear c0 c1 c2 c3 d0 d1 d2 d3 cf df hW
  have HIX2 : Hid (∀ k, k < n → ∀ W, (Instr.indexAt 23 (.slice ad n c) (.int .i64 (k : Int))).run Tryd.prog W = .ok (.pointer (some ⟨b, off + k, none⟩)) W) := HIX.out
  clear HIX
  go_loopw [4] (fun v wr => ∃ k : Nat, v = .int .i64 (k : Int) ∧ KRel w fs n k wr) (fun v _ => n - (intOf v).toNat)
  case atStart => exact ⟨0, rfl, HR0.out⟩
  case round =>
    obtain ⟨k, rfl, hkr⟩ := hrel
    obtain ⟨hkn, c0, c1, c2, c3, d0, d1, d2, d3, cf, df, hbl⟩ := hkr
    have HBL := Lib.hid hbl
    have hz := hbl.size
    clear hbl
    have CF := Lib.hid cf
    have DF := Lib.hid df
    clear cf df
    by_cases hlt : k < n
    · have hix := fun W => HIX2.out k hlt W
      obtain ⟨i, t, hi4, hft⟩ := fld_head (HF.out (fs.getD k []) (getD_mem fs k [] (by rw [HLN.out]; exact hlt)))
      have hcell := HSA.out.cell k hlt
      rw [strs_getD _ _ (by rw [List.length_map, HLN.out]; exact hlt)] at hcell
      have hgd : (fs.map bs).getD k .empty = bs (kindsL.getD i 0 :: t) := by
        rw [← hft]; simp [List.getD, List.getElem?_map, List.getElem?_eq_getElem (show k < fs.length by rw [HLN.out]; exact hlt)]
      rw [hgd] at hcell
      have hb := hblk (by omega)
      have hcr : wr.cell? ⟨b, off + k, none⟩ = some (.string (bs (kindsL.getD i 0 :: t))) := (HBL.out.cell (p := ⟨b, off + k, none⟩) hb).trans hcell
      have hg0 : 0 < (bs (kindsL.getD i 0 :: t)).size := by rw [bs_size]; simp
      have hgb : (bs (kindsL.getD i 0 :: t))[0]'hg0 = kindsL.getD i 0 := rfl
      have hor : ordL ((bs (kindsL.getD i 0 :: t))[0]'hg0) = (i : Int) := by rw [hgb, ordL_kind hi4]
      have HS := Lib.hid (fun j hj => kindA_step (k := k) (by rw [HLN.out]; exact hlt) hi4 hft j hj)
      clear hcell hgd hft hgb
      generalize bs (kindsL.getD i 0 :: t) = G at *
      obtain ⟨hf0, hf1, hf2, hf3⟩ := And.intro (CF.out 0) (And.intro (CF.out 1) (And.intro (CF.out 2) (CF.out 3)))
      have hb1 : b ≠ w.heap.size + 1 := by omega
      have hi' : i = 0 ∨ i = 1 ∨ i = 2 ∨ i = 3 := by omega
      rcases hi' with e | e | e | e
      all_goals
        subst e
        first | (have hor2 : ordL (G[0]'hg0) = (0 : Int) := hor) | (have hor2 : ordL (G[0]'hg0) = (1 : Int) := hor) | (have hor2 : ordL (G[0]'hg0) = (2 : Int) := hor) | (have hor2 : ordL (G[0]'hg0) = (3 : Int) := hor)
        clear hor
        go_wp2_with (go_at_call 30; refine (HO.out _ _).mono ?_; rintro e _ ⟨rfl, rfl⟩)
        go_roundw
        case rel =>
          refine ⟨k + 1, by go_num, by omega, ?_, ?_, ?_, ?_, ?_, ?_, ?_, ?_, ?_, ?_, ?_⟩
          · rw [HS.out 0 (by omega)]; first | (rw [if_pos rfl]; exact World.cell?_setCell_same' _ _ _ (by rw [c0]; rfl)) | (rw [if_neg (by omega)]; simp [go_sem]; exact c0)
          · rw [HS.out 1 (by omega)]; first | (rw [if_pos rfl]; exact World.cell?_setCell_same' _ _ _ (by rw [c1]; rfl)) | (rw [if_neg (by omega)]; simp [go_sem]; exact c1)
          · rw [HS.out 2 (by omega)]; first | (rw [if_pos rfl]; exact World.cell?_setCell_same' _ _ _ (by rw [c2]; rfl)) | (rw [if_neg (by omega)]; simp [go_sem]; exact c2)
          · rw [HS.out 3 (by omega)]; first | (rw [if_pos rfl]; exact World.cell?_setCell_same' _ _ _ (by rw [c3]; rfl)) | (rw [if_neg (by omega)]; simp [go_sem]; exact c3)
          · simp [go_sem]; exact d0
          · simp [go_sem]; exact d1
          · simp [go_sem]; exact d2
          · simp [go_sem]; exact d3
          · intro o; simp [go_sem]; exact CF.out o
          · intro o; simp [go_sem]; exact DF.out o
          · exact Below.setCell HBL.out (by simp) _
        case measure => simp [intOf]; omega
    · obtain rfl : k = n := by omega
      have hff : fs.take k = fs := List.take_of_length_le (by rw [HLN.out]; exact Nat.le_refl _)
      rw [hff] at c0 c1 c2 c3
      obtain ⟨hf0, hf1, hf2, hf3⟩ := And.intro (DF.out 0) (And.intro (DF.out 1) (And.intro (DF.out 2) (DF.out 3)))
      clear HR0
      go_wp2_with fail
      refine bodyPost_ret (v := kindsL4 fs) (by simp [results, Tryd.results34, go_sem, A4, kindsL4, d0, d1, d2, d3]) rfl ⟨rfl, ?_⟩
      show Bel w _
      repeat (first | exact HBL.out | refine Bel.setCell ?_ _ _ ?_ | exact Nat.le_refl _ | (simp; done) | omega)
end Go.Proofs.YtaolbfbnjbpljaaDoor
