/- DateFields: A pattern with y, MM and dd writes the text of the date, whatever the names of the locale are; one with another order of the same fields exchanges them. -/
import Derived.Test.YtaolbfbnjbpljaaDoorM2
import Derived.Test.YtaolbfbnjbpljaaDoorE5
import Derived.Test.YtaolbfbnjbpljaaDoorT5
import Derived.Test.YtaolbfbnjbpljaaDoorQ1
import Derived.Test.YtaolbfbnjbpljaaDoorO3
import Derived.Deep.QuietTactic
import Derived.BigQuiet
namespace Go.Proofs.YtaolbfbnjbpljaaDoor
open Go.RowKit
attribute [local go_sem] Ext.cell Ext.frozen
attribute [local go_sem ↓] Go.wp_at_zero Go.wp_at_succ

/-- y-MM-dd and dd/MM/y -/
def dfA : List UInt8 := [121, 45, 77, 77, 45, 100, 100]
def dfB : List UInt8 := [100, 100, 47, 77, 77, 47, 121]
def dfS : List UInt8 := [121, 77, 77, 100, 100]
theorem df_bestA : bestV [(dfS, dfA)] [121, 77, 100] = (((0 : Nat) : Int), 0) := by decide +kernel
theorem df_bestB : bestV [(dfS, dfB)] [121, 77, 100] = (((0 : Nat) : Int), 0) := by decide +kernel
theorem df_ownA : ownV dfA = true := by
  refine ownV_yes (k := 13) (by decide) ?_
  rw [date_eq]; decide +kernel
theorem df_ownB : ownV dfB = true := by
  refine ownV_yes (k := 13) (by decide) ?_
  rw [date_eq]; decide +kernel
theorem df_runsA : runsV dfA.length dfA = some [[121], [77, 77], [100, 100]] := by decide +kernel
theorem df_runsB : runsV dfB.length dfB = some [[100, 100], [77, 77], [121]] := by decide +kernel
theorem df_textA (y m d : Nat) : textV (FVn y m d) dfA.length dfA = some (txtD y m d) := by rfl
theorem df_textB (y m d : Nat) : textV (FVn y m d) dfB.length dfB = some (d2 d ++ 47 :: (d2 m ++ 47 :: d4 y)) := by rfl
theorem df_field (v0 v1 v2 v3 v4 v5 v6 v7 v8 v9 v10 v11 v12 v13 v14 v15 wd : Value) (y m d : Nat) (f : List UInt8) (w : World) (ht : Tab10 w) (hy1 : 1000 ≤ y) (hy : y < 10000) (hm : m < 100) (hd : d < 100) (hf : f = [121] ∨ f = [77, 77] ∨ f = [100, 100]) :
    Calls Tryd.prog 74 #[.agg #[v0, v1, v2, v3, v4, v5, v6, v7, v8, v9, v10, v11, v12, v13, v14, v15, .int .i64 (y : Int), .int .i64 (m : Int), .int .i64 (d : Int), wd], .string (bs f)] w fun e w' => e = .returned (fRes (FVn y m d f)) ∧ Below w.heap.size w w' := by
  rcases hf with h | h | h <;> subst h
  · have := field_y v0 v1 v2 v3 v4 v5 v6 v7 v8 v9 v10 v11 v12 v13 v14 v15 wd y m d w ht (by omega)
    rwa [dec_4 hy1 hy] at this
  · exact field_MM v0 v1 v2 v3 v4 v5 v6 v7 v8 v9 v10 v11 v12 v13 v14 v15 wd y m d w hm
  · exact field_dd v0 v1 v2 v3 v4 v5 v6 v7 v8 v9 v10 v11 v12 v13 v14 v15 wd y m d w hd
/-- Format with one pattern of y, MM and dd -/
theorem df_format (P : List UInt8) (x : Nat → Value) (B : Nat) (N : Int) (y m d : Nat) (w : World) (ht : Tab10 w) (hv : vldP y m d) (hN1 : -25567 ≤ N) (hN2 : N ≤ 84005) (hc : civV N = ((y : Int), (m : Int), (d : Int), 0))
    (h0 : w.cell? ⟨B, 0, none⟩ = some (.string (bs dfS))) (h1 : w.cell? ⟨B, 1, none⟩ = some (.string (bs P))) (hP : P = dfA ∨ P = dfB) :
    Calls Tryd.prog 26 #[.agg #[x 0, x 1, x 2, x 3, x 4, x 5, x 6, x 7, x 8, x 9, x 10, x 11, x 12, .slice (some ⟨B, 0, none⟩) 1 1, x 14, x 15], .string (bs [121, 77, 100]), .int .i64 N] w fun e w' => e = .returned (fRes (textV (FVn y m d) P.length P)) ∧ Below w.heap.size w w' := by
  obtain ⟨b1, b2, b3⟩ := vld_bd hv
  have hy := hv.1
  have hpat : PatAt w (some ⟨B, 0, none⟩) 1 [(dfS, P)] B 0 := by
    refine ⟨rfl, by decide, fun _ => rfl, ?_, ?_⟩
    · intro i hi
      obtain rfl : i = 0 := by omega
      exact h0
    · intro i hi
      obtain rfl : i = 0 := by omega
      exact h1
  have hgs : ∃ gs, runsV P.length P = some gs ∧ ∀ f ∈ gs, f = [121] ∨ f = [77, 77] ∨ f = [100, 100] := by
    rcases hP with e | e <;> subst e
    · exact ⟨_, df_runsA, by simp⟩
    · exact ⟨_, df_runsB, by simp⟩
  obtain ⟨gs, hg, hgf⟩ := hgs
  exact format_ok (x 0) (x 1) (x 2) (x 3) (x 4) (x 5) (x 6) (x 7) (x 8) (x 9) (x 10) (x 11) (x 12) (x 14) (x 15) (some ⟨B, 0, none⟩) 1 1 [(dfS, P)] B 0 (bs [121, 77, 100]) N y m d 0 P (FVn y m d) w hpat
    (by rw [bs_size]; decide) (by simp [dfS]) hc hN1 hN2 (by rw [bs_data]; rcases hP with e | e <;> subst e; exact df_bestA; exact df_bestB) (by decide) rfl (by rcases hP with e | e <;> subst e <;> decide)
    (by rcases hP with e | e <;> subst e; exact df_ownA; exact df_ownB) hg
    (fun f _ hm w' hb => df_field _ _ _ _ _ _ _ _ _ _ _ _ _ _ _ _ _ y m d f w' (ht.on hb) (by omega) b1 b2 b3 (hgf f hm)) FVn_len
theorem cell_row {w : World} {B : Nat} {cs : Array Value} {t : TypeId} (hb : w.heap[B]? = some (.cells cs t (0, 0))) (j : Nat) : w.cell? ⟨B, j, none⟩ = cs[j]? := by
  simp [World.cell?, hb]
theorem row_fz {w : World} {B : Nat} {cs : Array Value} {t : TypeId} (hb : w.heap[B]? = some (.cells cs t (0, 0))) (j : Nat) : w.frozen? ⟨B, j, none⟩ = false := by
  simp [World.frozen?, hb]
theorem row_st {w : World} {B : Nat} {cs : Array Value} {t : TypeId} (hb : w.heap[B]? = some (.cells cs t (0, 0))) (j : Nat) (v : Value) : (w.setCell ⟨B, j, none⟩ v).heap[B]? = some (.cells (cs.setIfInBounds j v) t (0, 0)) := by
  simp [World.setCell, Array.getElem?_modify, hb]
/-- the table of one locale is small or not -/
theorem few_one (x : Nat → Value) (w : World) (hx : LocOk w x) : Calls Tryd.prog 25 #[.agg #[.slice (some ⟨w.heap.size, 0, none⟩) 1 1, .slice none 0 0, .slice none 0 0]] (w.alloc (.cells #[x 0, x 1, x 2, x 3, x 4, x 5, x 6, x 7, x 8, x 9, x 10, x 11, x 12, x 13, x 14, x 15] 52)) (SomeBool (w.alloc (.cells #[x 0, x 1, x 2, x 3, x 4, x 5, x 6, x 7, x 8, x 9, x 10, x 11, x 12, x 13, x 14, x 15] 52))) := by
  have hb : Below w.heap.size w (w.alloc (.cells #[x 0, x 1, x 2, x 3, x 4, x 5, x 6, x 7, x 8, x 9, x 10, x 11, x 12, x 13, x 14, x 15] 52)) := (Below.refl _ _).alloc (Nat.le_refl _) _
  have hh : (w.alloc (.cells #[x 0, x 1, x 2, x 3, x 4, x 5, x 6, x 7, x 8, x 9, x 10, x 11, x 12, x 13, x 14, x 15] 52)).heap[w.heap.size]? = some (.cells #[x 0, x 1, x 2, x 3, x 4, x 5, x 6, x 7, x 8, x 9, x 10, x 11, x 12, x 13, x 14, x 15] 52 (0, 0)) := by show (w.heap.push _)[w.heap.size]? = some _; simp
  refine tfew_any _ _ _ _ ⟨⟨_, 1, 1, fun _ => x, w.heap.size, 0, rfl, ⟨by omega, fun _ => rfl, fun i j hi hj => ?_⟩, fun i hi => hx.below hb⟩, ⟨none, 0, 0, fun _ _ => .empty, 0, 0, rfl, ⟨by omega, fun h => absurd rfl h, fun i j hi => absurd hi (Nat.not_lt_zero _)⟩⟩, ⟨none, 0, 0, fun _ _ => undef, 0, 0, rfl, ⟨by omega, fun h => absurd rfl h, fun i j hi => absurd hi (Nat.not_lt_zero _)⟩, fun i hi => absurd hi (Nat.not_lt_zero _)⟩⟩ rfl rfl
  obtain rfl : i = 0 := by omega
  have : j = 0 ∨ j = 1 ∨ j = 2 ∨ j = 3 ∨ j = 4 ∨ j = 5 ∨ j = 6 ∨ j = 7 ∨ j = 8 ∨ j = 9 ∨ j = 10 ∨ j = 11 ∨ j = 12 ∨ j = 13 ∨ j = 14 ∨ j = 15 := by omega
  rcases this with e | e | e | e | e | e | e | e | e | e | e | e | e | e | e | e <;> subst e <;> exact (cell_row hh _).trans rfl
set_option maxRecDepth 100000 in
set_option maxHeartbeats 16000000 in
theorem dateFields_walk (x : Nat → Value) (n : Int) (w : World) (hx : LocOk w x) (ht : Tab10 w) : Calls Tryd.prog 7 #[.agg #[x 0, x 1, x 2, x 3, x 4, x 5, x 6, x 7, x 8, x 9, x 10, x 11, x 12, x 13, x 14, x 15], .int .i64 n] w fun e w' => e = .returned (.bool true) ∧ Below w.heap.size w w' := by
  have HA : Hid (∀ w1, Below w.heap.size w w1 → Calls Tryd.prog 15 #[] w1 fun e w' => e = .returned (.bool true) ∧ Below w1.heap.size w1 w') := fun w1 g => awake_any w1 (ht.on g)
  have HX := Lib.hid hx
  have HT := Lib.hid ht
  have HV := Lib.hid (fun w => rvalid_any n w)
  clear hx ht
  go_enter Tryd.func7, Tryd.ntmps7
  go_wp2_with fail
  refine (Calls.toExt (HA.out _ ((Below.refl _ _).alloc (Nat.le_refl _) _))).mono ?_
  rintro e _ ⟨rfl, x1, rfl⟩
  obtain ⟨W, hW⟩ := x1
  simp only at hW ⊢
  have hWs : w.heap.size < W.heap.size := by have := hW.size; simp at this; omega
  have HBW : Hid (Below w.heap.size w W) := ((Below.refl _ _).alloc (Nat.le_refl _) _).trans (hW.mono (by simp))
  have y0 : W.cell? ⟨w.heap.size, 0, none⟩ = some (x 0) := (hW.cell (p := ⟨w.heap.size, 0, none⟩) (by simp)).trans (by simp [go_sem])
  have y1 : W.cell? ⟨w.heap.size, 1, none⟩ = some (x 1) := (hW.cell (p := ⟨w.heap.size, 1, none⟩) (by simp)).trans (by simp [go_sem])
  have y2 : W.cell? ⟨w.heap.size, 2, none⟩ = some (x 2) := (hW.cell (p := ⟨w.heap.size, 2, none⟩) (by simp)).trans (by simp [go_sem])
  have y3 : W.cell? ⟨w.heap.size, 3, none⟩ = some (x 3) := (hW.cell (p := ⟨w.heap.size, 3, none⟩) (by simp)).trans (by simp [go_sem])
  have y4 : W.cell? ⟨w.heap.size, 4, none⟩ = some (x 4) := (hW.cell (p := ⟨w.heap.size, 4, none⟩) (by simp)).trans (by simp [go_sem])
  have y5 : W.cell? ⟨w.heap.size, 5, none⟩ = some (x 5) := (hW.cell (p := ⟨w.heap.size, 5, none⟩) (by simp)).trans (by simp [go_sem])
  have y6 : W.cell? ⟨w.heap.size, 6, none⟩ = some (x 6) := (hW.cell (p := ⟨w.heap.size, 6, none⟩) (by simp)).trans (by simp [go_sem])
  have y7 : W.cell? ⟨w.heap.size, 7, none⟩ = some (x 7) := (hW.cell (p := ⟨w.heap.size, 7, none⟩) (by simp)).trans (by simp [go_sem])
  have y8 : W.cell? ⟨w.heap.size, 8, none⟩ = some (x 8) := (hW.cell (p := ⟨w.heap.size, 8, none⟩) (by simp)).trans (by simp [go_sem])
  have y9 : W.cell? ⟨w.heap.size, 9, none⟩ = some (x 9) := (hW.cell (p := ⟨w.heap.size, 9, none⟩) (by simp)).trans (by simp [go_sem])
  have y10 : W.cell? ⟨w.heap.size, 10, none⟩ = some (x 10) := (hW.cell (p := ⟨w.heap.size, 10, none⟩) (by simp)).trans (by simp [go_sem])
  have y11 : W.cell? ⟨w.heap.size, 11, none⟩ = some (x 11) := (hW.cell (p := ⟨w.heap.size, 11, none⟩) (by simp)).trans (by simp [go_sem])
  have y12 : W.cell? ⟨w.heap.size, 12, none⟩ = some (x 12) := (hW.cell (p := ⟨w.heap.size, 12, none⟩) (by simp)).trans (by simp [go_sem])
  have y13 : W.cell? ⟨w.heap.size, 13, none⟩ = some (x 13) := (hW.cell (p := ⟨w.heap.size, 13, none⟩) (by simp)).trans (by simp [go_sem])
  have y14 : W.cell? ⟨w.heap.size, 14, none⟩ = some (x 14) := (hW.cell (p := ⟨w.heap.size, 14, none⟩) (by simp)).trans (by simp [go_sem])
  have y15 : W.cell? ⟨w.heap.size, 15, none⟩ = some (x 15) := (hW.cell (p := ⟨w.heap.size, 15, none⟩) (by simp)).trans (by simp [go_sem])
  have HRW : Hid (W.heap[w.heap.size]? = some (.cells #[x 0, x 1, x 2, x 3, x 4, x 5, x 6, x 7, x 8, x 9, x 10, x 11, x 12, x 13, x 14, x 15] 52 (0, 0))) := (hW.block w.heap.size (by simp)).trans (by show (w.heap.push _)[w.heap.size]? = _; simp)
  have hfz : W.frozen? ⟨w.heap.size, 13, none⟩ = false := row_fz HRW.out 13
  have HFT : Hid (Calls Tryd.prog 25 #[.agg #[.slice (some ⟨W.heap.size, 0, none⟩) 1 1, .slice none 0 0, .slice none 0 0]] (W.alloc (.cells #[x 0, x 1, x 2, x 3, x 4, x 5, x 6, x 7, x 8, x 9, x 10, x 11, x 12, x 13, x 14, x 15] 52)) (SomeBool (W.alloc (.cells #[x 0, x 1, x 2, x 3, x 4, x 5, x 6, x 7, x 8, x 9, x 10, x 11, x 12, x 13, x 14, x 15] 52)))) := few_one x W (HX.out.below HBW.out)
  clear hW
  go_wp2_with fail
  refine HFT.out.mono ?_
  rintro e w2 ⟨bb, rfl, hb2⟩
  have HB2 := Lib.hid (HBW.out.trans ((((Below.refl _ _).alloc (Nat.le_refl _) _).trans (hb2.mono (by simp))).mono HBW.out.size))
  have hz2 := HB2.out.size
  have HBX : Hid (Below W.heap.size W w2) := ((Below.refl _ _).alloc (Nat.le_refl _) _).trans (hb2.mono (by simp))
  clear hb2
  cases bb with
  | false =>
    go_wp2_with fail
    refine (Calls.toExt (HA.out _ HB2.out)).mono ?_
    rintro e _ ⟨rfl, x3, rfl⟩
    go_wp2_with fail
    go_ret
    exact ⟨rfl, HB2.out.trans (x3.2.mono hz2)⟩
  | true =>
    by_cases hn : -25567 ≤ n ∧ n ≤ 84005
    · obtain ⟨h1, h2⟩ := hn
      obtain ⟨y, m, d, hv, hnn, hc⟩ := civV_ok ⟨h1, h2⟩
      rw [decide_eq_true h1, decide_eq_true h2] at HV
      have htx : txtV n = txtD y m d := by rw [hnn]; exact txtV_of hv
      have HTX : Hid (∀ w3, Below w.heap.size w w3 → Calls Tryd.prog 24 #[.int .i64 n] w3 fun e w' => e = .returned (.string (bs (txtD y m d))) ∧ Below w3.heap.size w3 w') := fun w3 g => by
        have := text_any n w3 (HT.out.on g)
        rwa [htx] at this
      have HR2 : Hid (w2.heap[w.heap.size]? = some (.cells #[x 0, x 1, x 2, x 3, x 4, x 5, x 6, x 7, x 8, x 9, x 10, x 11, x 12, x 13, x 14, x 15] 52 (0, 0))) := (HBX.out.block w.heap.size hWs).trans HRW.out
      have k0 : w2.cell? ⟨w.heap.size, 0, none⟩ = some (x 0) := (cell_row HR2.out 0).trans rfl
      have k1 : w2.cell? ⟨w.heap.size, 1, none⟩ = some (x 1) := (cell_row HR2.out 1).trans rfl
      have k2 : w2.cell? ⟨w.heap.size, 2, none⟩ = some (x 2) := (cell_row HR2.out 2).trans rfl
      have k3 : w2.cell? ⟨w.heap.size, 3, none⟩ = some (x 3) := (cell_row HR2.out 3).trans rfl
      have k4 : w2.cell? ⟨w.heap.size, 4, none⟩ = some (x 4) := (cell_row HR2.out 4).trans rfl
      have k5 : w2.cell? ⟨w.heap.size, 5, none⟩ = some (x 5) := (cell_row HR2.out 5).trans rfl
      have k6 : w2.cell? ⟨w.heap.size, 6, none⟩ = some (x 6) := (cell_row HR2.out 6).trans rfl
      have k7 : w2.cell? ⟨w.heap.size, 7, none⟩ = some (x 7) := (cell_row HR2.out 7).trans rfl
      have k8 : w2.cell? ⟨w.heap.size, 8, none⟩ = some (x 8) := (cell_row HR2.out 8).trans rfl
      have k9 : w2.cell? ⟨w.heap.size, 9, none⟩ = some (x 9) := (cell_row HR2.out 9).trans rfl
      have k10 : w2.cell? ⟨w.heap.size, 10, none⟩ = some (x 10) := (cell_row HR2.out 10).trans rfl
      have k11 : w2.cell? ⟨w.heap.size, 11, none⟩ = some (x 11) := (cell_row HR2.out 11).trans rfl
      have k12 : w2.cell? ⟨w.heap.size, 12, none⟩ = some (x 12) := (cell_row HR2.out 12).trans rfl
      have k13 : w2.cell? ⟨w.heap.size, 13, none⟩ = some (x 13) := (cell_row HR2.out 13).trans rfl
      have k14 : w2.cell? ⟨w.heap.size, 14, none⟩ = some (x 14) := (cell_row HR2.out 14).trans rfl
      have k15 : w2.cell? ⟨w.heap.size, 15, none⟩ = some (x 15) := (cell_row HR2.out 15).trans rfl
      have kf : w2.frozen? ⟨w.heap.size, 13, none⟩ = false := row_fz HR2.out 13
      have hws2 : w.heap.size < w2.heap.size := by have := HBX.out.size; omega
      have HFM := Lib.hid (fun P B w3 (g : Below w.heap.size w w3) g0 g1 hP => df_format P x B n y m d w3 (HT.out.on g) hv h1 h2 hc g0 g1 hP)
      have HFA : Hid (∀ B w3, Below w.heap.size w w3 → w3.cell? ⟨B, 0, none⟩ = some (.string (bs dfS)) → w3.cell? ⟨B, 1, none⟩ = some (.string (bs dfA)) → Calls Tryd.prog 26 #[.agg #[x 0, x 1, x 2, x 3, x 4, x 5, x 6, x 7, x 8, x 9, x 10, x 11, x 12, .slice (some ⟨B, 0, none⟩) 1 1, x 14, x 15], .string ⟨#[121, 77, 100]⟩, .int .i64 n] w3 fun e w' => e = .returned (.tuple #[.string (bs (txtD y m d)), .int .i64 0]) ∧ Below w3.heap.size w3 w') := fun B w3 g g0 g1 => by
        have := HFM.out dfA B w3 g g0 g1 (.inl rfl)
        rw [df_textA] at this
        exact this
      have HFB : Hid (∀ B w3, Below w.heap.size w w3 → w3.cell? ⟨B, 0, none⟩ = some (.string (bs dfS)) → w3.cell? ⟨B, 1, none⟩ = some (.string (bs dfB)) → Calls Tryd.prog 26 #[.agg #[x 0, x 1, x 2, x 3, x 4, x 5, x 6, x 7, x 8, x 9, x 10, x 11, x 12, .slice (some ⟨B, 0, none⟩) 1 1, x 14, x 15], .string ⟨#[121, 77, 100]⟩, .int .i64 n] w3 fun e w' => e = .returned (.tuple #[.string (bs (d2 d ++ 47 :: (d2 m ++ 47 :: d4 y))), .int .i64 0]) ∧ Below w3.heap.size w3 w') := fun B w3 g g0 g1 => by
        have := HFM.out dfB B w3 g g0 g1 (.inr rfl)
        rw [df_textB] at this
        exact this
      clear HFM
      have HHV := Lib.hid hv
      clear hnn htx hc hv y0 y1 y2 y3 y4 y5 y6 y7 y8 y9 y10 y11 y12 y13 y14 y15 hfz
      go_wp2_with fail
      refine (HV.out _).mono ?_
      rintro e _ ⟨rfl, rfl⟩
      go_wp2_with fail
      refine (Calls.toExt (HFA.out _ _ (by show Bel w _; exact Bel.alloc (Bel.setCell HB2.out ⟨w.heap.size, 13, none⟩ _ (Nat.le_refl _)) _) (by simp [go_sem, dfS, bs]) (by simp [go_sem, dfA, bs]))).mono ?_
      rintro e _ ⟨rfl, x4, rfl⟩
      have HB4 : Hid (Below w.heap.size w x4.1) := by
        refine Below.trans ?_ (x4.2.mono (by simp; omega))
        exact (show Bel w _ from Bel.alloc (Bel.setCell HB2.out ⟨w.heap.size, 13, none⟩ _ (Nat.le_refl _)) _)
      obtain ⟨X4, hX4⟩ := x4
      simp only at HB4 hX4 ⊢
      have HR4 : Hid (X4.heap[w.heap.size]? = some (.cells #[x 0, x 1, x 2, x 3, x 4, x 5, x 6, x 7, x 8, x 9, x 10, x 11, x 12, .slice (some ⟨w2.heap.size, 0, none⟩) 1 1, x 14, x 15] 52 (0, 0))) := (hX4.block w.heap.size (by simp; omega)).trans ((Below.heap_alloc _ _ _ (by simp; omega)).trans (row_st HR2.out 13 _))
      have z0 : X4.cell? ⟨w.heap.size, 0, none⟩ = some (x 0) := (cell_row HR4.out 0).trans rfl
      have z1 : X4.cell? ⟨w.heap.size, 1, none⟩ = some (x 1) := (cell_row HR4.out 1).trans rfl
      have z2 : X4.cell? ⟨w.heap.size, 2, none⟩ = some (x 2) := (cell_row HR4.out 2).trans rfl
      have z3 : X4.cell? ⟨w.heap.size, 3, none⟩ = some (x 3) := (cell_row HR4.out 3).trans rfl
      have z4 : X4.cell? ⟨w.heap.size, 4, none⟩ = some (x 4) := (cell_row HR4.out 4).trans rfl
      have z5 : X4.cell? ⟨w.heap.size, 5, none⟩ = some (x 5) := (cell_row HR4.out 5).trans rfl
      have z6 : X4.cell? ⟨w.heap.size, 6, none⟩ = some (x 6) := (cell_row HR4.out 6).trans rfl
      have z7 : X4.cell? ⟨w.heap.size, 7, none⟩ = some (x 7) := (cell_row HR4.out 7).trans rfl
      have z8 : X4.cell? ⟨w.heap.size, 8, none⟩ = some (x 8) := (cell_row HR4.out 8).trans rfl
      have z9 : X4.cell? ⟨w.heap.size, 9, none⟩ = some (x 9) := (cell_row HR4.out 9).trans rfl
      have z10 : X4.cell? ⟨w.heap.size, 10, none⟩ = some (x 10) := (cell_row HR4.out 10).trans rfl
      have z11 : X4.cell? ⟨w.heap.size, 11, none⟩ = some (x 11) := (cell_row HR4.out 11).trans rfl
      have z12 : X4.cell? ⟨w.heap.size, 12, none⟩ = some (x 12) := (cell_row HR4.out 12).trans rfl
      have z13 : X4.cell? ⟨w.heap.size, 13, none⟩ = some (.slice (some ⟨w2.heap.size, 0, none⟩) 1 1) := (cell_row HR4.out 13).trans rfl
      have z14 : X4.cell? ⟨w.heap.size, 14, none⟩ = some (x 14) := (cell_row HR4.out 14).trans rfl
      have z15 : X4.cell? ⟨w.heap.size, 15, none⟩ = some (x 15) := (cell_row HR4.out 15).trans rfl
      have zf : X4.frozen? ⟨w.heap.size, 13, none⟩ = false := row_fz HR4.out 13
      have hwX : w.heap.size < X4.heap.size := by have := hX4.size; simp at this; omega
      clear hX4 kf k0 k1 k2 k3 k4 k5 k6 k7 k8 k9 k10 k11 k12 k13 k14 k15
      go_wp2_with fail
      refine (Calls.toExt (HFB.out _ _ (by show Bel w _; exact Bel.alloc (Bel.setCell HB4.out ⟨w.heap.size, 13, none⟩ _ (Nat.le_refl _)) _) (by simp [go_sem, dfS, bs]) (by simp [go_sem, dfB, bs]))).mono ?_
      rintro e _ ⟨rfl, x5, rfl⟩
      have HB5 : Hid (Below w.heap.size w x5.1) := by
        refine Below.trans ?_ (x5.2.mono (by simp; omega))
        exact (show Bel w _ from Bel.alloc (Bel.setCell HB4.out ⟨w.heap.size, 13, none⟩ _ (Nat.le_refl _)) _)
      obtain ⟨X5, hX5⟩ := x5
      simp only at HB5 ⊢
      clear hX5 zf z0 z1 z2 z3 z4 z5 z6 z7 z8 z9 z10 z11 z12 z13 z14 z15
      go_wp2_with fail
      refine (Calls.toExt (HTX.out _ HB5.out)).mono ?_
      rintro e _ ⟨rfl, x6, rfl⟩
      have HB6 := Lib.hid (HB5.out.trans (x6.2.mono HB5.out.size))
      obtain ⟨X6, hX6⟩ := x6
      simp only at HB6 ⊢
      clear hX6
      go_wp2_with fail
      have e8 : (bs (txtD y m d)).extract 8 10 = bs (d2 d) := by rw [bs_extract]; rfl
      have e5 : (bs (txtD y m d)).extract 5 7 = bs (d2 m) := by rw [bs_extract]; rfl
      have e0 : (bs (txtD y m d)).extract 0 4 = bs (d4 y) := by rw [bs_extract]; rfl
      have esz : (bs (txtD y m d)).size = 10 := by rw [bs_size]; rfl
      have s1 : (bs (d2 d)).size = 2 := by rw [bs_size]; rfl
      have s2 : (bs (d2 m)).size = 2 := by rw [bs_size]; rfl
      have s3 : (bs (d4 y)).size = 4 := by rw [bs_size]; rfl
      have hR : bs (d2 d ++ 47 :: (d2 m ++ 47 :: d4 y)) = bs (d2 d) ++ ⟨#[47]⟩ ++ bs (d2 m) ++ ⟨#[47]⟩ ++ bs (d4 y) := by
        rw [show (⟨#[47]⟩ : ByteArray) = bs [47] from rfl, bs_append, bs_append, bs_append, bs_append]
        simp
      rw [hR]
      clear hR HFA HFB HTX HHV HV
      generalize bs (txtD y m d) = TB at *
      generalize bs (d2 d) = DB at *
      generalize bs (d2 m) = MB at *
      generalize bs (d4 y) = YB at *
      go_quiet (fail)
      go_wp2_with fail
      go_ret
      exact ⟨rfl, (show Bel w _ from Bel.drewN HB6.out _)⟩
    · have hf : (decide (-25567 ≤ n) && decide (n ≤ 84005)) = false := by
        rw [Bool.and_eq_false_iff, decide_eq_false_iff_not, decide_eq_false_iff_not]; omega
      rw [hf] at HV
      clear hf hn
      go_wp2_with fail
      refine (HV.out _).mono ?_
      rintro e _ ⟨rfl, rfl⟩
      go_wp2_with fail
      refine (Calls.toExt (HA.out _ HB2.out)).mono ?_
      rintro e _ ⟨rfl, x3, rfl⟩
      go_wp2_with fail
      go_ret
      exact ⟨rfl, HB2.out.trans (x3.2.mono hz2)⟩
end Go.Proofs.YtaolbfbnjbpljaaDoor
namespace Go.Proofs.YtaolbfbnjbpljaaDoor.lawDateFields
open Go.ChangeShapes Go.WideShapes Go.ChangeAt Go.RowKit Go.Joins
open Go.ChangeMaps (open_string shut_string)
set_option maxRecDepth 100000 in
theorem lifted (os : Os) (started : os.Started) (H : Type) (enc : TypeId × Value → H) :
    ReturnsInHanded {} Tryd.checked os 7 .any (fun w args => (Rows.dateFieldsSpec.pre enc Tryd.prog Tryd.f7 Rows.dateFieldsRow.domain false w args ∧ laidMetH Tryd.prog Rows.dateFieldsRow.laid w) ∧ sizedMet enc Tryd.prog Tryd.f7 (OpenSpec.ofChange Rows.dateFieldsSpec) false w args)
      (Rows.dateFieldsSpec.post enc Tryd.prog Tryd.f7 false true false false) := by
  refine returnsInHanded_of_change_and (C := Tryd.checked) (X := fun w _ => laidMetH Tryd.prog Rows.dateFieldsRow.laid w) (fun _ _ _ hh h => h.of_heap hh) own started (by kernel_rfl) Tryd.func7
    (ChangeSpec.witness_shaped (enc := enc) (C := Tryd.checked) (os := os) (X := fun w _ => laidMetH Tryd.prog Rows.dateFieldsRow.laid w) false (World.laidAll Tryd.prog os Rows.dateFieldsRow.laid) #[.agg #[.string .empty, .string .empty, .string .empty, .slice none 0 0, .slice none 0 0, .string .empty, .string .empty, .string .empty, .string .empty, .int .i64 0, .int .i64 0, .slice none 0 0, .slice none 0 0, .slice none 0 0, .slice none 0 0, .slice none 0 0], .int .i64 0] 8 (World.laidAll_os _ _ _)
      (World.shaped_of_ZipB (by kernel_rfl) (by kernel_rfl)) (by kernel_rfl) (by kernel_rfl) (by kernel_rfl)
      (by rw [MakeChecks.laidMetH_plain _ _ _ (by kernel_rfl)]; exact laidMet_laidAll _ (by kernel_rfl) (by kernel_rfl))) ?_
  intro W base args ds gs before hval0 hW _ _ hL _
  have hval : ∀ (j : Nat) t v, Tryd.f7.params[j]? = some t → args[j]? = some v → Value.okWide Tryd.prog W .any base t v := hval0
  have hW' := hW
  obtain ⟨p, q, hA0, hV, rfl, hfz, hnd⟩ := hW
  have hA : DataW.TrodAll enc Tryd.prog W 0 (fun _ => true) true Tryd.f7.params.toList args.toList ds p := hA0
  rw [Tryd.params7] at hA hval
  obtain ⟨v0, vs0, d0, ds0, p0, q0, hargs, rfl, rfl, h0, r0⟩ := trodAll_cons hA
  obtain ⟨v1, vs1, d1, ds1, p1, q1, rfl, rfl, rfl, h1, r1⟩ := trodAll_cons r0
  obtain ⟨rfl, rfl, rfl⟩ := trodAll_nil r1
  obtain rfl : args = #[v0, v1] := by cases args; simp_all
  obtain ⟨rfl, rfl⟩ := trodVars_none hV
  have k0 := h0
  have lt0 : ∀ x ∈ p0, x.block < W.heap.size := by obtain ⟨m, hm⟩ := k0; exact DataW.trod_lt m _ _ _ hm
  obtain ⟨cs0, rfl, hcs0⟩ := okWide_struct Tryd.underlying52 (hval 0 52 v0 rfl rfl)
  obtain ⟨fuel0, hf0⟩ := h0
  obtain ⟨x0, hx0, hok0⟩ := loc_cells (enc := enc) (w := W) (base := 0) (spare := fun _ => true) (held := true) ⟨fuel0, _, by simpa [Value.cells] using hf0⟩
  obtain rfl : cs0 = #[x0 0, x0 1, x0 2, x0 3, x0 4, x0 5, x0 6, x0 7, x0 8, x0 9, x0 10, x0 11, x0 12, x0 13, x0 14, x0 15] := Array.toList_inj.1 hx0
  obtain ⟨z1, rfl, rfl, rfl, hz1⟩ := open_int Tryd.underlying3 (hval 1 3 v1 rfl rfl) h1
  clear hA0 hval0
  refine (dateFields_walk x0 z1 W hok0 (tab10_of (by kernel_rfl) hL)).mono fun e W' ⟨he, bel⟩ => ?_
  subst he
  exact ⟨_, rfl, _, _, _, [], _, [], hW', trodAll_mk1 (shut_bool Tryd.underlying4 _), (trodAll_cons_mk (Below.trod laidOut (by kernel_rfl) (of_decide_eq_true (by kernel_rfl)) k0 bel lt0) (trodAll_cons_mk (shut_int Tryd.underlying3 hz1) trodAll_mk0)), rfl, bel.frame _, fun h => by cases h⟩

theorem proved : Rows.DateFieldsSaid :=
  OpenClaim.holds_of_wide 7 Tryd.f7 rfl rfl rfl rfl rfl rfl rfl ⟨rfl, rfl, rfl, rfl, rfl⟩ rfl rfl rfl rfl rfl (by kernel_rfl) Tryd.func7 (by kernel_rfl)
    (of_decide_eq_true (by kernel_rfl)) (by unfold Func.isWrapper; first | (rw [if_pos (by decide +kernel)]; kernel_rfl) | (rw [if_neg (by decide +kernel)]; exact ⟨rfl, rfl⟩))
    (fun os started H enc _ => lifted os started H enc)
theorem card : Rows.DateFieldsCardSaid :=
  Claim7.holds_tied_plain_at .later [] [.data, .data, .data, .data, .pinned] true (true, "187b34c1a1a2553ab751f702c962cfae9e185c0428888ad6df30cb1be956878b") false proved (fun _ h => by cases h) (by kernel_rfl) (fun _ h => by cases h) dateFields_row_tie rfl ⟨rfl, rfl⟩ (by kernel_rfl) rfl
    (fun f fn hf hfn => by
      obtain rfl : f = 7 := Option.some.inj ((show Tryd.prog.funcNamed "calque/calquelaw18.DateFields" = some 7 by kernel_rfl).symm.trans hf) |>.symm
      obtain rfl : fn = Tryd.f7 := (Option.some.inj (Tryd.func7.symm.trans hfn)).symm
      exact ⟨by kernel_rfl, fun j t ht => by
        rw [Tryd.params7] at ht
        have hm : t ∈ [52, 3] := by simpa using Array.mem_of_getElem? ht
        have hall : ([52, 3].all fun u => !Tryd.prog.wantsStandIn u) = true := by kernel_rfl
        exact (show Tryd.prog.wantsStandIn t = false by simpa using List.all_eq_true.1 hall t hm)⟩)
    (by kernel_rfl)
#print axioms card
end Go.Proofs.YtaolbfbnjbpljaaDoor.lawDateFields
