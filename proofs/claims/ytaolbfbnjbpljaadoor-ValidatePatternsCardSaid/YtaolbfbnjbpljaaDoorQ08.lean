/- Walks: the kinds of fields and the distance, by the reference. -/
import Derived.Test.YtaolbfbnjbpljaaDoorQ07
import Derived.Test.YtaolbfbnjbpljaaDoorQ06
import Derived.Test.YtaolbfbnjbpljaaDoorQ04
import Derived.Deep.DeepCutAuto
import Derived.Test.YtaolbfbnjbpljaaDoorQ00
namespace Go.Proofs.YtaolbfbnjbpljaaDoor
open Go.RowKit
attribute [local go_sem] Ext.cell Ext.frozen
attribute [local go_sem ↓] Go.wp_at_zero Go.wp_at_succ

theorem kindA_snoc (fs : List (List UInt8)) (f : List UInt8) (i : Nat) : kindA (fs ++ [f]) i = (kindA fs i || (f.take 1 == [kindsL.getD i 0])) := by
  unfold kindA hds
  rw [List.map_append, List.contains_eq_any_beq, List.contains_eq_any_beq, List.any_append]
  simp [Bool.beq_comm]
theorem fld_head {f : List UInt8} (h : isFld f = true) : ∃ (i : Nat) (t : List UInt8), i < 4 ∧ f = kindsL.getD i 0 :: t := by
  unfold isFld fieldL at h
  rw [List.contains_iff_mem] at h
  simp only [List.mem_cons, List.not_mem_nil, or_false] at h
  rcases h with h | h | h | h | h | h | h <;> subst h
  · exact ⟨0, _, by omega, rfl⟩
  · exact ⟨1, _, by omega, rfl⟩
  · exact ⟨1, _, by omega, rfl⟩
  · exact ⟨1, _, by omega, rfl⟩
  · exact ⟨2, _, by omega, rfl⟩
  · exact ⟨3, _, by omega, rfl⟩
  · exact ⟨3, _, by omega, rfl⟩
/-- an array of four -/
def A4 (b0 b1 b2 b3 : Bool) : Value := .agg #[.bool b0, .bool b1, .bool b2, .bool b3]
def kindsL4 (fs : List (List UInt8)) : Value := A4 (kindA fs 0) (kindA fs 1) (kindA fs 2) (kindA fs 3)
theorem kindA_step {fs : List (List UInt8)} {k i : Nat} {t : List UInt8} (hk : k < fs.length) (hi : i < 4) (hf : fs.getD k [] = kindsL.getD i 0 :: t) (j : Nat) (hj : j < 4) :
    kindA (fs.take (k + 1)) j = if j = i then true else kindA (fs.take k) j := by
  have e1 : fs.getD k [] = fs[k] := by simp [List.getD, List.getElem?_eq_getElem hk]
  rw [List.take_succ_eq_append_getElem hk, kindA_snoc, ← e1, hf]
  have hi' : i = 0 ∨ i = 1 ∨ i = 2 ∨ i = 3 := by omega
  have hj' : j = 0 ∨ j = 1 ∨ j = 2 ∨ j = 3 := by omega
  rcases hi' with e | e | e | e <;> rcases hj' with e' | e' | e' | e' <;> subst e <;> subst e' <;> simp [kindsL]

/-- what holds of the array behind the first k fields -/
def KRel (w : World) (fs : List (List UInt8)) (n k : Nat) (wr : World) : Prop :=
  k ≤ n ∧ wr.cell? ⟨w.heap.size + 1, 0, none⟩ = some (.bool (kindA (fs.take k) 0)) ∧ wr.cell? ⟨w.heap.size + 1, 1, none⟩ = some (.bool (kindA (fs.take k) 1)) ∧
    wr.cell? ⟨w.heap.size + 1, 2, none⟩ = some (.bool (kindA (fs.take k) 2)) ∧ wr.cell? ⟨w.heap.size + 1, 3, none⟩ = some (.bool (kindA (fs.take k) 3)) ∧
    wr.cell? ⟨w.heap.size, 0, none⟩ = some (.bool false) ∧ wr.cell? ⟨w.heap.size, 1, none⟩ = some (.bool false) ∧ wr.cell? ⟨w.heap.size, 2, none⟩ = some (.bool false) ∧ wr.cell? ⟨w.heap.size, 3, none⟩ = some (.bool false) ∧
    (∀ o, wr.frozen? ⟨w.heap.size + 1, o, none⟩ = false) ∧ (∀ o, wr.frozen? ⟨w.heap.size, o, none⟩ = false) ∧ Below w.heap.size w wr
set_option maxRecDepth 20000 in
set_option maxHeartbeats 4000000 in
theorem rkinds_any (ad : Option Addr) (n c : Nat) (fs : List (List UInt8)) (w : World) (h : Sl w ad n (strs (fs.map bs))) (hf : ∀ f ∈ fs, isFld f = true) (hn : n ≤ 1000) :
    Calls Tryd.prog 34 #[.slice ad n c] w fun e w' => e = .returned (kindsL4 fs) ∧ Below w.heap.size w w' := by
  have HO := Lib.hid order_any
  have HF := Lib.hid hf
  obtain ⟨b, off, hsa⟩ := h
  have hlen : fs.length = n := by have := hsa.len; simpa [strs] using this
  have HSA := Lib.hid hsa
  have HLN := Lib.hid hlen
  have HIX := Lib.hid (fun k (hk : k < n) (W : World) => SlAt.ix (c := c) hsa 23 9 Tryd.underlying23 cellsStr2 hk W)
  have hblk : n ≠ 0 → b < w.heap.size := fun h => hsa.block h
  clear hsa hf hlen
  go_enter Tryd.func34, Tryd.ntmps34
  go_wp2_with fail
  refine wp_at_world ?_
  intro W hW
  have hWs : W.heap.size = w.heap.size + 2 := by rw [hW]; simp
  have HBW : Hid (Below w.heap.size w W) := by
    rw [hW]
    show Bel w _
    repeat (first | exact Bel.refl _ | refine Bel.alloc ?_ _ | refine Bel.setCell ?_ _ _ ?_ | exact Nat.le_refl _ | (simp; done) | omega)
  have c0 : W.cell? ⟨w.heap.size + 1, 0, none⟩ = some (.bool false) := by rw [hW]; simp [go_sem]
  have c1 : W.cell? ⟨w.heap.size + 1, 1, none⟩ = some (.bool false) := by rw [hW]; simp [go_sem]
  have c2 : W.cell? ⟨w.heap.size + 1, 2, none⟩ = some (.bool false) := by rw [hW]; simp [go_sem]
  have c3 : W.cell? ⟨w.heap.size + 1, 3, none⟩ = some (.bool false) := by rw [hW]; simp [go_sem]
  have d0 : W.cell? ⟨w.heap.size, 0, none⟩ = some (.bool false) := by rw [hW]; simp [go_sem]
  have d1 : W.cell? ⟨w.heap.size, 1, none⟩ = some (.bool false) := by rw [hW]; simp [go_sem]
  have d2 : W.cell? ⟨w.heap.size, 2, none⟩ = some (.bool false) := by rw [hW]; simp [go_sem]
  have d3 : W.cell? ⟨w.heap.size, 3, none⟩ = some (.bool false) := by rw [hW]; simp [go_sem]
  have cf : ∀ o, W.frozen? ⟨w.heap.size + 1, o, none⟩ = false := by intro o; rw [hW]; simp [go_sem]
  have df : ∀ o, W.frozen? ⟨w.heap.size, o, none⟩ = false := by intro o; rw [hW]; simp [go_sem]
  have HR0 : Hid (KRel w fs n 0 W) := ⟨Nat.zero_le _, c0, c1, c2, c3, d0, d1, d2, d3, cf, df, HBW.out⟩
  clear c0 c1 c2 c3 d0 d1 d2 d3 cf df hW
  have HIX2 : Hid (∀ k, k < n → ∀ W, (Instr.indexAt 23 (.slice ad n c) (.int .i64 (k : Int))).run Tryd.prog W = .ok (.pointer (some ⟨b, off + k, none⟩)) W) := HIX.out
  clear HIX
  go_loopw [4] (fun v wr => ∃ k : Nat, v = .int .i64 (k : Int) ∧ KRel w fs n k wr) (fun v _ => n - (intOf v).toNat)
  case atStart => exact ⟨0, rfl, HR0.out⟩
  case round =>
    obtain ⟨k, rfl, hkr⟩ := hrel
    obtain ⟨hkn, c0, c1, c2, c3, d0, d1, d2, d3, cf, df, hbl⟩ := hkr
    have HBL := Lib.hid hbl
    have hz := hbl.size
    clear hbl
    have CF := Lib.hid cf
    have DF := Lib.hid df
    clear cf df
    by_cases hlt : k < n
    · have hix := fun W => HIX2.out k hlt W
      obtain ⟨i, t, hi4, hft⟩ := fld_head (HF.out (fs.getD k []) (getD_mem fs k [] (by rw [HLN.out]; exact hlt)))
      have hcell := HSA.out.cell k hlt
      rw [strs_getD _ _ (by rw [List.length_map, HLN.out]; exact hlt)] at hcell
      have hgd : (fs.map bs).getD k .empty = bs (kindsL.getD i 0 :: t) := by
        rw [← hft]; simp [List.getD, List.getElem?_map, List.getElem?_eq_getElem (show k < fs.length by rw [HLN.out]; exact hlt)]
      rw [hgd] at hcell
      have hb := hblk (by omega)
      have hcr : wr.cell? ⟨b, off + k, none⟩ = some (.string (bs (kindsL.getD i 0 :: t))) := (HBL.out.cell (p := ⟨b, off + k, none⟩) hb).trans hcell
      have hg0 : 0 < (bs (kindsL.getD i 0 :: t)).size := by rw [bs_size]; simp
      have hgb : (bs (kindsL.getD i 0 :: t))[0]'hg0 = kindsL.getD i 0 := rfl
      have hor : ordL ((bs (kindsL.getD i 0 :: t))[0]'hg0) = (i : Int) := by rw [hgb, ordL_kind hi4]
      have HS := Lib.hid (fun j hj => kindA_step (k := k) (by rw [HLN.out]; exact hlt) hi4 hft j hj)
      clear hcell hgd hft hgb
      generalize bs (kindsL.getD i 0 :: t) = G at *
      obtain ⟨hf0, hf1, hf2, hf3⟩ := And.intro (CF.out 0) (And.intro (CF.out 1) (And.intro (CF.out 2) (CF.out 3)))
      have hb1 : b ≠ w.heap.size + 1 := by omega
      have hi' : i = 0 ∨ i = 1 ∨ i = 2 ∨ i = 3 := by omega
      rcases hi' with e | e | e | e
      all_goals
        subst e
        first | (have hor2 : ordL (G[0]'hg0) = (0 : Int) := hor) | (have hor2 : ordL (G[0]'hg0) = (1 : Int) := hor) | (have hor2 : ordL (G[0]'hg0) = (2 : Int) := hor) | (have hor2 : ordL (G[0]'hg0) = (3 : Int) := hor)
        clear hor
        go_wp2_with (go_at_call 30; refine (HO.out _ _).mono ?_; rintro e _ ⟨rfl, rfl⟩)
        go_roundw
        case rel =>
          refine ⟨k + 1, by go_num, by omega, ?_, ?_, ?_, ?_, ?_, ?_, ?_, ?_, ?_, ?_, ?_⟩
          · rw [HS.out 0 (by omega)]; first | (rw [if_pos rfl]; exact World.cell?_setCell_same' _ _ _ (by rw [c0]; rfl)) | (rw [if_neg (by omega)]; simp [go_sem]; exact c0)
          · rw [HS.out 1 (by omega)]; first | (rw [if_pos rfl]; exact World.cell?_setCell_same' _ _ _ (by rw [c1]; rfl)) | (rw [if_neg (by omega)]; simp [go_sem]; exact c1)
          · rw [HS.out 2 (by omega)]; first | (rw [if_pos rfl]; exact World.cell?_setCell_same' _ _ _ (by rw [c2]; rfl)) | (rw [if_neg (by omega)]; simp [go_sem]; exact c2)
          · rw [HS.out 3 (by omega)]; first | (rw [if_pos rfl]; exact World.cell?_setCell_same' _ _ _ (by rw [c3]; rfl)) | (rw [if_neg (by omega)]; simp [go_sem]; exact c3)
          · simp [go_sem]; exact d0
          · simp [go_sem]; exact d1
          · simp [go_sem]; exact d2
          · simp [go_sem]; exact d3
          · intro o; simp [go_sem]; exact CF.out o
          · intro o; simp [go_sem]; exact DF.out o
          · exact Below.setCell HBL.out (by simp) _
        case measure => simp [intOf]; omega
    · obtain rfl : k = n := by omega
      have hff : fs.take k = fs := List.take_of_length_le (by rw [HLN.out]; exact Nat.le_refl _)
      rw [hff] at c0 c1 c2 c3
      obtain ⟨hf0, hf1, hf2, hf3⟩ := And.intro (DF.out 0) (And.intro (DF.out 1) (And.intro (DF.out 2) (DF.out 3)))
      clear HR0
      go_wp2_with fail
      refine bodyPost_ret (v := kindsL4 fs) (by simp [results, Tryd.results34, go_sem, A4, kindsL4, d0, d1, d2, d3]) rfl ⟨rfl, ?_⟩
      show Bel w _
      repeat (first | exact HBL.out | refine Bel.setCell ?_ _ _ ?_ | exact Nat.le_refl _ | (simp; done) | omega)
end Go.Proofs.YtaolbfbnjbpljaaDoor
/- Walk: the runs of a date pattern, by the reference. -/
namespace Go.Proofs.YtaolbfbnjbpljaaDoor
open Go.RowKit
attribute [local go_sem] Ext.cell Ext.frozen
attribute [local go_sem ↓] Go.wp_at_zero Go.wp_at_succ
theorem wp_at_worldY {P : Program} {c : Code} {Q : Exit → Act → World → Prop} {a : Act} {w : World} (h : ∀ W, W = w → c.wp P Q a W) : c.wp P Q a w := h w rfl
theorem rowY_cells {w : World} {B : Nat} {cs : Array Value} {t : TypeId} (hb : w.heap[B]? = some (.cells cs t (0, 0))) (j : Nat) : w.cell? ⟨B, j, none⟩ = cs[j]? := by
  simp [World.cell?, hb]
theorem rowY_frozen {w : World} {B : Nat} {cs : Array Value} {t : TypeId} (hb : w.heap[B]? = some (.cells cs t (0, 0))) (j : Nat) : w.frozen? ⟨B, j, none⟩ = false := by
  simp [World.frozen?, hb]
theorem rowY_new (w : World) (cs : Array Value) (t : TypeId) : (w.alloc (.cells cs t)).heap[w.heap.size]? = some (.cells cs t (0, 0)) := by show (w.heap.push _)[w.heap.size]? = _; simp
theorem rowY_set {w : World} {B : Nat} {cs : Array Value} {t : TypeId} (hb : w.heap[B]? = some (.cells cs t (0, 0))) (j : Nat) (v : Value) : (w.setCell ⟨B, j, none⟩ v).heap[B]? = some (.cells (cs.setIfInBounds j v) t (0, 0)) := by
  simp [World.setCell, Array.getElem?_modify, hb]
theorem ownY_set {w : World} {base size : Nat} {E : TypeId} {v : Value} {n : Nat} {xs : List Value} (h : w.ownsRow base E size v n xs) (p : Addr) (hp : p.block < base) (y : Value) : (w.setCell p y).ownsRow base E size v n xs := by
  refine ⟨h.1, ?_⟩
  rcases h.2 with h2 | ⟨g, cap, cur, h1, h2, h3, h4, h5, h6, h7⟩
  · exact .inl h2
  · exact .inr ⟨g, cap, cur, h1, h2, (Below.heap_setCell w p y g (by omega)).trans h3, h4, h5, h6, h7⟩
theorem rletter13_any (c : UInt8) (w : World) : Calls Tryd.prog 60 #[.int .u8 (c.toNat : Int)] w fun e w' => e = .returned (.bool (isL c)) ∧ w = w' := by
  have hz : c.toNat < 256 := c.toNat_lt
  rcases (show c.toNat < 65 ∨ (65 ≤ c.toNat ∧ c.toNat ≤ 90) ∨ (90 < c.toNat ∧ c.toNat < 97) ∨ (97 ≤ c.toNat ∧ c.toNat ≤ 122) ∨ 122 < c.toNat by omega) with h | ⟨h, h'⟩ | ⟨h, h'⟩ | ⟨h, h'⟩ | h
  · have HR : Hid (isL c = false) := by unfold Hid isL; rw [decide_eq_false (p := 65 ≤ c.toNat) (by omega), decide_eq_false (p := 97 ≤ c.toNat) (by omega)]; rfl
    have g1 : ¬ 65 ≤ (c.toNat : Int) := by omega
    have g3 : ¬ 97 ≤ (c.toNat : Int) := by omega
    clear hz h
    go_enter Tryd.func60, Tryd.ntmps60
    go_wp2_with fail
    go_ret
    exact ⟨by rw [HR.out]; rfl, rfl⟩
  · have HR : Hid (isL c = true) := by unfold Hid isL; rw [decide_eq_true h, decide_eq_true h']; rfl
    have g1 : 65 ≤ (c.toNat : Int) := by omega
    have g2 : (c.toNat : Int) ≤ 90 := by omega
    clear hz h h'
    go_enter Tryd.func60, Tryd.ntmps60
    go_wp2_with fail
    go_ret
    exact ⟨by rw [HR.out]; rfl, rfl⟩
  · have HR : Hid (isL c = false) := by unfold Hid isL; rw [decide_eq_false (p := c.toNat ≤ 90) (by omega), decide_eq_false (p := 97 ≤ c.toNat) (by omega), Bool.and_false]; rfl
    have g1 : 65 ≤ (c.toNat : Int) := by omega
    have g2 : ¬ (c.toNat : Int) ≤ 90 := by omega
    have g3 : ¬ 97 ≤ (c.toNat : Int) := by omega
    clear hz h h'
    go_enter Tryd.func60, Tryd.ntmps60
    go_wp2_with fail
    go_ret
    exact ⟨by rw [HR.out]; rfl, rfl⟩
  · have HR : Hid (isL c = true) := by unfold Hid isL; rw [decide_eq_true h, decide_eq_true h', Bool.and_self, Bool.or_true]
    have g1 : 65 ≤ (c.toNat : Int) := by omega
    have g2 : ¬ (c.toNat : Int) ≤ 90 := by omega
    have g3 : 97 ≤ (c.toNat : Int) := by omega
    have g4 : (c.toNat : Int) ≤ 122 := by omega
    clear hz h h'
    go_enter Tryd.func60, Tryd.ntmps60
    go_wp2_with fail
    go_ret
    exact ⟨by rw [HR.out]; rfl, rfl⟩
  · have HR : Hid (isL c = false) := by unfold Hid isL; rw [decide_eq_false (p := c.toNat ≤ 90) (by omega), decide_eq_false (p := c.toNat ≤ 122) (by omega), Bool.and_false, Bool.and_false]; rfl
    have g1 : 65 ≤ (c.toNat : Int) := by omega
    have g2 : ¬ (c.toNat : Int) ≤ 90 := by omega
    have g3 : 97 ≤ (c.toNat : Int) := by omega
    have g4 : ¬ (c.toNat : Int) ≤ 122 := by omega
    clear hz h
    go_enter Tryd.func60, Tryd.ntmps60
    go_wp2_with fail
    go_ret
    exact ⟨by rw [HR.out]; rfl, rfl⟩
/-- what the reference's Runs answers -/
def rrunsV (p : List UInt8) : List (List UInt8) × Bool := match runsV p.length p with
  | some g => if (hds g).Nodup then (g, decide (g ≠ [])) else ([], false)
  | none => ([], false)
def RRunsPost (p : List UInt8) (w : World) (e : Ending) (w' : World) : Prop :=
  ∃ ad c, e = .returned (.tuple #[.slice ad (rrunsV p).1.length c, .bool (rrunsV p).2]) ∧ w'.ownsRow (w.heap.size + 1) 9 1 (.slice ad (rrunsV p).1.length c) (rrunsV p).1.length (strs ((rrunsV p).1.map bs)) ∧ Below w.heap.size w w'
theorem rruns_bad {p : List UInt8} (h : ∀ g, runsV p.length p = some g → ¬ (hds g).Nodup) : rrunsV p = ([], false) := by
  unfold rrunsV
  split
  · rename_i g hg
    rw [if_neg (h g hg)]
  · rfl
theorem kindA_mem {fs : List (List UInt8)} {i : Nat} : kindA fs i = true ↔ [kindsL.getD i 0] ∈ hds fs := by unfold kindA; rw [List.contains_iff_mem]
theorem hds_snoc (o : List (List UInt8)) (f : List UInt8) : hds (o ++ [f]) = hds o ++ [f.take 1] := by unfold hds; simp
theorem hds_app (o p : List (List UInt8)) : hds (o ++ p) = hds o ++ hds p := by unfold hds; simp
theorem tkY_at {l : List UInt8} {k : Nat} (h : k < (l.takeWhile isL).length) : isL (l.getD k 0) = true := by
  induction l generalizing k with
  | nil => simp at h
  | cons a l ih =>
    rw [List.takeWhile_cons] at h
    by_cases ha : isL a = true
    · rw [if_pos ha] at h
      cases k with
      | zero => exact ha
      | succ k => simp at h; simpa using ih (k := k) h
    · rw [if_neg ha] at h; simp at h
theorem tkY_end {l : List UInt8} (h : (l.takeWhile isL).length < l.length) : isL (l.getD (l.takeWhile isL).length 0) = false := by
  induction l with
  | nil => simp at h
  | cons a l ih =>
    rw [List.takeWhile_cons] at h ⊢
    by_cases ha : isL a = true
    · rw [if_pos ha] at h ⊢
      simp at h ⊢
      simpa using ih h
    · rw [if_neg ha]
      cases hb : isL a
      · simpa using hb
      · exact absurd hb ha
theorem kindA_snocK {o : List (List UInt8)} {i : Nat} {t : List UInt8} (hi : i < 4) (j : Nat) (hj : j < 4) : kindA (o ++ [kindsL.getD i 0 :: t]) j = if j = i then true else kindA o j := by
  rw [kindA_snoc]
  have hi' : i = 0 ∨ i = 1 ∨ i = 2 ∨ i = 3 := by omega
  have hj' : j = 0 ∨ j = 1 ∨ j = 2 ∨ j = 3 := by omega
  rcases hi' with e | e | e | e <;> rcases hj' with e' | e' | e' | e' <;> subst e <;> subst e' <;> simp [kindsL]
abbrev kRow (o : List (List UInt8)) : Array Value := #[.bool (kindA o 0), .bool (kindA o 1), .bool (kindA o 2), .bool (kindA o 3)]
theorem kRow_set {o : List (List UInt8)} {i : Nat} {t : List UInt8} (hi : i < 4) : (kRow o).setIfInBounds i (.bool true) = kRow (o ++ [kindsL.getD i 0 :: t]) := by
  have h := fun j hj => kindA_snocK (o := o) (t := t) hi j hj
  unfold kRow
  rw [h 0 (by omega), h 1 (by omega), h 2 (by omega), h 3 (by omega)]
  have hi' : i = 0 ∨ i = 1 ∨ i = 2 ∨ i = 3 := by omega
  rcases hi' with e | e | e | e <;> subst e <;> rfl
end Go.Proofs.YtaolbfbnjbpljaaDoor
/- Walk: whether a text has each placeholder once, by the reference. -/
namespace Go.Proofs.YtaolbfbnjbpljaaDoor
open Go.RowKit
attribute [local go_sem] Ext.cell Ext.frozen
attribute [local go_sem ↓] Go.wp_at_zero Go.wp_at_succ
def plA (n : Nat) : Nat → Bool := fun j => decide (0 ≤ j ∧ j < n)
def patB (n : Nat) (l : List UInt8) : Bool := match scanA (plA n) l with
  | some L => (List.range n).all fun j => decide (L.count j = 1)
  | none => false
theorem patB_ok {n : Nat} {l : List UInt8} : patB n l = true ↔ OkFrom n 0 l := by
  unfold patB OkFrom
  show _ ↔ ∃ L, scanA (plA n) l = some L ∧ _
  cases scanA (plA n) l with
  | none => exact ⟨fun h => (by cases h), fun ⟨L, h, _⟩ => (by cases h)⟩
  | some L =>
    simp only [List.all_eq_true, List.mem_range, decide_eq_true_eq]
    exact ⟨fun h => ⟨L, rfl, fun j _ hj => h j hj⟩, fun ⟨M, h, hj⟩ j h2 => by injection h with h; subst h; exact hj j (Nat.zero_le _) h2⟩
/-- of any number -/
def patZ (l : List UInt8) (z : Int) : Bool := decide (1 ≤ z ∧ z ≤ 9) && patB z.toNat l
abbrev cRow (L : List Nat) : Array Value := #[.int .i64 (L.count 0 : Int), .int .i64 (L.count 1 : Int), .int .i64 (L.count 2 : Int), .int .i64 (L.count 3 : Int), .int .i64 (L.count 4 : Int), .int .i64 (L.count 5 : Int), .int .i64 (L.count 6 : Int), .int .i64 (L.count 7 : Int), .int .i64 (L.count 8 : Int)]
theorem nine {d : Nat} (h : d < 9) : d = 0 ∨ d = 1 ∨ d = 2 ∨ d = 3 ∨ d = 4 ∨ d = 5 ∨ d = 6 ∨ d = 7 ∨ d = 8 := by omega
theorem cRow_at {L : List Nat} {d : Nat} (h : d < 9) : (cRow L)[d]? = some (.int .i64 (L.count d : Int)) := by
  rcases nine h with e | e | e | e | e | e | e | e | e <;> subst e <;> rfl
theorem cRow_set {L : List Nat} {d : Nat} (h : d < 9) : (cRow L).setIfInBounds d (.int .i64 ((L.count d : Int) + 1)) = cRow (L ++ [d]) := by
  have hc : ∀ j, ((L ++ [d]).count j : Int) = if j = d then (L.count j : Int) + 1 else (L.count j : Int) := fun j => by
    rw [List.count_append]
    by_cases e : j = d
    · subst e; rw [if_pos rfl]; simp
    · rw [if_neg e, List.count_singleton]; simp [Ne.symm e]
  unfold cRow
  rw [hc 0, hc 1, hc 2, hc 3, hc 4, hc 5, hc 6, hc 7, hc 8]
  rcases nine h with e | e | e | e | e | e | e | e | e <;> subst e <;> rfl
theorem ix9 {d : Nat} (h : d < 9) (k : IntKind) (B : Nat) (W : World) : (Instr.indexAt 73 (.pointer (some ⟨B, 0, none⟩)) (.int k (d : Int))).run Tryd.prog W = .ok (.pointer (some ⟨B, d, none⟩)) W := by
  rcases nine h with e | e | e | e | e | e | e | e | e <;> subst e <;> simp [go_sem, Addr.add]
theorem drop_two {l : List UInt8} {i : Nat} (h : i + 2 < l.length) : l.drop i = l.getD i 0 :: l.getD (i + 1) 0 :: l.getD (i + 2) 0 :: l.drop (i + 3) := by
  have k : ∀ j, j < l.length → l.drop j = l.getD j 0 :: l.drop (j + 1) := fun j hj => by rw [List.drop_eq_getElem_cons hj]; simp [List.getD, List.getElem?_eq_getElem hj]
  rw [k i (by omega), k (i + 1) (by omega), k (i + 2) h]
theorem neY {a b : UInt8} (h : a ≠ b) : ((a.toNat : Int) == (b.toNat : Int)) = false := u8_ne2 h
set_option maxRecDepth 20000 in
set_option maxHeartbeats 8000000 in
theorem rpattern_any (l : List UInt8) (z : Int) (w : World) (hl : l.length ≤ 1000) (hz0 : -9223372036854775808 ≤ z) (hz1 : z ≤ 9223372036854775807) : Calls Tryd.prog 14 #[.string (bs l), .int .i64 z] w fun e w' => e = .returned (.bool (patZ l z)) ∧ Below w.heap.size w w' := by
  have hsz : (bs l).size = l.length := bs_size l
  have HSZ := Lib.hid hsz
  have hle : (bs l).size ≤ 1000 := by omega
  have HAT : Hid (∀ (i : Nat) (g : i < (bs l).size), (bs l)[i]'g = l.getD i 0) := fun i g => ba_getD (bs l) i g
  have HBL : Hid (Below w.heap.size w w) := Below.refl _ _
  by_cases h1 : z < 1
  · have HR : Hid (patZ l z = false) := by unfold Hid patZ; rw [decide_eq_false (by omega)]; rfl
    generalize bs l = S at *
    clear hsz HSZ
    go_enter Tryd.func14, Tryd.ntmps14
    go_wp2_with fail
    go_ret
    exact ⟨by rw [HR.out]; rfl, HBL.out⟩
  by_cases h9 : 9 < z
  · have HR : Hid (patZ l z = false) := by unfold Hid patZ; rw [decide_eq_false (by omega)]; rfl
    generalize bs l = S at *
    clear hsz HSZ
    go_enter Tryd.func14, Tryd.ntmps14
    go_wp2_with fail
    go_ret
    exact ⟨by rw [HR.out]; rfl, HBL.out⟩
  obtain ⟨n, rfl⟩ : ∃ n : Nat, z = n := ⟨z.toNat, by omega⟩
  have HPZ : Hid (patZ l n = patB n l) := by unfold Hid patZ; rw [decide_eq_true (by omega), Int.toNat_natCast]; rfl
  generalize bs l = S at *
  clear hsz HBL hz0 hz1
  go_enter Tryd.func14, Tryd.ntmps14
  go_wp2_with fail
  refine wp_at_worldY ?_
  intro W hW
  have KA : Hid (W.heap[w.heap.size]? = some (.cells (cRow []) 73 (0, 0))) := by rw [hW]; exact rowY_new _ _ _
  have HB0 : Hid (Below w.heap.size w W) := by rw [hW]; exact (Below.refl _ _).alloc (Nat.le_refl _) _
  clear hW
  go_loopw [6] (fun u wr => ∃ (i : Nat) (M : List Nat), u = .int .i64 (i : Int) ∧ i ≤ l.length ∧ M.length ≤ i ∧ scanA (plA n) l = (scanA (plA n) (l.drop i)).map (M ++ ·) ∧
      wr.heap[w.heap.size]? = some (.cells (cRow M) 73 (0, 0)) ∧ Below w.heap.size w wr) (fun u _ => l.length - (intOf u).toNat)
  case atStart => exact ⟨0, [], rfl, by omega, by simp, by simp, KA.out, HB0.out⟩
  case round =>
    obtain ⟨i, M, rfl, his, hMl, hsc, hka, hbl⟩ := hrel
    have HSC := Lib.hid hsc
    have HKA := Lib.hid hka
    have HBL := Lib.hid hbl
    clear hsc hka hbl KA HB0
    by_cases hi : i < l.length
    · have hiS : i < S.size := by rw [HSZ.out]; exact hi
      have hat : ∀ g : i < S.size, S[i]'g = l.getD i 0 := fun g => HAT.out i g
      have hd1 : l.drop i = l.getD i 0 :: l.drop (i + 1) := by rw [List.drop_eq_getElem_cons hi]; simp [List.getD, List.getElem?_eq_getElem hi]
      by_cases h123 : l.getD i 0 = 123
      · rw [h123] at hat
        by_cases h2 : i + 2 < l.length
        · have g2 : (i : Int) + 2 < (S.size : Int) := by have := HSZ.out; omega
          have hi2 : i + 2 < S.size := by rw [HSZ.out]; exact h2
          have hi1 : i + 1 < S.size := by omega
          have hat2 : ∀ g : i + 2 < S.size, S[i + 2]'g = l.getD (i + 2) 0 := fun g => HAT.out _ g
          have hat1 : ∀ g : i + 1 < S.size, S[i + 1]'g = l.getD (i + 1) 0 := fun g => HAT.out _ g
          have hd3 := drop_two h2
          rw [h123] at hd3
          have hso := scan_open (A := plA n) (l.getD (i + 1) 0) (l.getD (i + 2) 0) (l.drop (i + 3))
          rw [← hd3] at hso
          have HSO := Lib.hid hso
          clear hd1 hd3 h123 hso
          have hlt1 := (l.getD (i + 1) 0).toNat_lt
          generalize l.getD (i + 1) 0 = c1 at *
          generalize l.getD (i + 2) 0 = c2 at *
          have HBADF : Hid (¬ (c2 = 125 ∧ 48 ≤ c1.toNat ∧ plA n (c1.toNat - 48) = true) → patZ l n = false) := fun h => by
            rw [HPZ.out]
            unfold patB
            rw [HSC.out, HSO.out, if_neg h]
            rfl
          by_cases h125 : c2 = 125
          · subst h125
            by_cases h48 : 48 ≤ c1.toNat
            · have g48 : 48 ≤ (c1.toNat : Int) := by omega
              obtain ⟨d, hd⟩ : ∃ d, c1.toNat - 48 = d := ⟨_, rfl⟩
              have hdi : (c1.toNat : Int) - 48 = (d : Int) := by omega
              have hdw : IntKind.u8.wrap ((c1.toNat : Int) - 48) = (d : Int) := by rw [hdi]; unfold IntKind.wrap; simp [IntKind.signed, IntKind.bits]; omega
              by_cases hdn : d < n
              · have gdn : (d : Int) < (n : Int) := by omega
                have hd9 : d < 9 := by omega
                have HSC2 : Hid (scanA (plA n) l = (scanA (plA n) (l.drop (i + 3))).map ((M ++ [d]) ++ ·)) := by
                  unfold Hid
                  rw [HSC.out, HSO.out, if_pos ⟨rfl, h48, by rw [hd]; exact decide_eq_true ⟨Nat.zero_le _, hdn⟩⟩, hd, Option.map_map]
                  congr 1
                  funext y
                  simp
                have hkc := (rowY_cells HKA.out d).trans (cRow_at hd9)
                have hkf := rowY_frozen HKA.out d
                have hix := fun k W => ix9 hd9 k w.heap.size W
                have HSET : Hid ((cRow M).setIfInBounds d (.int .i64 ((M.count d : Int) + 1)) = cRow (M ++ [d])) := cRow_set hd9
                have hcb : (M.count d : Int) ≤ 1000 := by have : M.count d ≤ M.length := List.count_le_length; omega
                have hML : (M ++ [d]).length ≤ i + 3 := by simp; omega
                have HML := Lib.hid hML
                clear HBADF hML hd
                go_wp2_with fail
                go_roundw
                case rel => exact ⟨i + 3, M ++ [d], by go_num, by omega, HML.out, HSC2.out, by rw [← HSET.out]; exact rowY_set HKA.out d _, Below.setCell HBL.out (p := ⟨w.heap.size, d, none⟩) (Nat.le_refl _) _⟩
                case measure => simp [intOf]; omega
              · have HR := Lib.hid (HBADF.out (fun h => hdn (by have := of_decide_eq_true h.2.2; omega)))
                have gdn : ¬ (d : Int) < (n : Int) := by omega
                clear HBADF hd
                go_wp2_with fail
                go_ret
                exact ⟨by rw [HR.out]; rfl, HBL.out⟩
            · have HR := Lib.hid (HBADF.out (fun h => h48 h.2.1))
              have g48 : ¬ 48 ≤ (c1.toNat : Int) := by omega
              clear HBADF
              go_wp2_with fail
              go_ret
              exact ⟨by rw [HR.out]; rfl, HBL.out⟩
          · have HR := Lib.hid (HBADF.out (fun h => h125 h.1))
            have g125 : ((c2.toNat : Int) == 125) = false := neY h125
            clear HBADF
            go_wp2_with fail
            go_ret
            exact ⟨by rw [HR.out]; rfl, HBL.out⟩
        · have g2 : ¬ (i : Int) + 2 < (S.size : Int) := by have := HSZ.out; omega
          have HR : Hid (patZ l n = false) := by
            unfold Hid
            rw [HPZ.out]
            unfold patB
            rw [HSC.out, hd1, h123, scan_short _ (by rw [List.length_drop]; omega)]
            rfl
          clear hd1 h123
          go_wp2_with fail
          go_ret
          exact ⟨by rw [HR.out]; rfl, HBL.out⟩
      · have g123 : (((l.getD i 0).toNat : Int) == 123) = false := neY h123
        by_cases h125 : l.getD i 0 = 125
        · have HR : Hid (patZ l n = false) := by
            unfold Hid
            rw [HPZ.out]
            unfold patB
            rw [HSC.out, hd1, h125, scan_close]
            rfl
          rw [h125] at hat
          clear hd1 h123 h125 g123
          go_wp2_with fail
          go_ret
          exact ⟨by rw [HR.out]; rfl, HBL.out⟩
        · have g125 : (((l.getD i 0).toNat : Int) == 125) = false := neY h125
          have HSC2 : Hid (scanA (plA n) l = (scanA (plA n) (l.drop (i + 1))).map (M ++ ·)) := by
            unfold Hid
            rw [HSC.out, hd1, scan_skip (fun h => h.elim h123 h125)]
          clear hd1 h123 h125
          generalize l.getD i 0 = c0 at *
          go_wp2_with fail
          go_roundw
          case rel => exact ⟨i + 1, M, by go_num, hi, by omega, HSC2.out, HKA.out, HBL.out⟩
          case measure => simp [intOf]; omega
    · obtain rfl : i = l.length := by omega
      have hpe : ¬ l.length < S.size := by rw [HSZ.out]; omega
      have HPB : Hid (patZ l n = (List.range n).all fun j => decide (M.count j = 1)) := by
        unfold Hid
        rw [HPZ.out]
        unfold patB
        rw [HSC.out, List.drop_length, show scanA (plA n) ([] : List UInt8) = some [] from rfl]
        simp
      go_wp2_with fail
      go_loopw [7] (fun u wx => ∃ k : Nat, u = .int .i64 (k : Int) ∧ k ≤ n ∧ (∀ j, j < k → M.count j = 1) ∧ wx = wr) (fun u _ => n - (intOf u).toNat)
      case atStart => exact ⟨0, rfl, by omega, fun j h => absurd h (Nat.not_lt_zero _), rfl⟩
      case round =>
        obtain ⟨k, rfl, hk, hall, rfl⟩ := hrel
        have HALL := Lib.hid hall
        clear hall
        by_cases hkn : k < n
        · have hk9 : k < 9 := by omega
          have hkc := (rowY_cells HKA.out k).trans (cRow_at hk9)
          have hix := fun t W => ix9 hk9 t w.heap.size W
          by_cases hc1 : M.count k = 1
          · have HALL2 : Hid (∀ j, j < k + 1 → M.count j = 1) := fun j hj => by
              rcases Nat.lt_or_ge j k with h | h
              · exact HALL.out j h
              · rw [show j = k by omega]; exact hc1
            rw [hc1] at hkc
            clear hc1
            go_wp2_with fail
            go_roundw
            case rel => exact ⟨k + 1, by go_num, hkn, HALL2.out, trivial⟩
            case measure => simp [intOf]; omega
          · have HR : Hid (patZ l n = false) := by
              unfold Hid
              rw [HPB.out]
              refine List.all_eq_false.2 ⟨k, List.mem_range.2 hkn, by simpa using hc1⟩
            have gc : ((M.count k : Int) == 1) = false := by rw [beq_eq_false_iff_ne]; omega
            generalize M.count k = ck at *
            go_wp2_with fail
            go_ret
            exact ⟨by rw [HR.out]; rfl, HBL.out⟩
        · obtain rfl : k = n := by omega
          have HR : Hid (patZ l k = true) := by
            unfold Hid
            rw [HPB.out]
            exact List.all_eq_true.2 (fun j hj => decide_eq_true (HALL.out j (List.mem_range.1 hj)))
          go_wp2_with fail
          go_ret
          exact ⟨by rw [HR.out]; rfl, HBL.out⟩
end Go.Proofs.YtaolbfbnjbpljaaDoor
