/- Walks: lexeme's quoted and next, of any string. -/
import Derived.Test.YtpionddponmdmaaGreatDoorQ28
import Derived.Deep.DeepCutAuto
namespace Go.Proofs.YtpionddponmdmaaGreatDoor
open Go.RowKit
attribute [local go_sem] Ext.cell Ext.frozen
attribute [local go_sem ↓] Go.wp_at_zero Go.wp_at_succ
def TabU (w : World) : Prop := Lib.Utf8Tabs 0 1 w
theorem TabU.below {w w' : World} (h : TabU w) (hb : Below w.heap.size w w') : TabU w' := Utf8Tabs_below h hb
theorem valid_any (l : List UInt8) (hl : l.length ≤ 100000) (w : World) (hT : TabU w) : Calls Tryz.prog 24 #[.string (bs l)] w fun e w' => e = .returned (.bool (Lib.validD l)) ∧ Below w.heap.size w w' := by
  have HV : Hid (Calls Tryz.prog 40 #[.string (bs l)] w fun e w' => e = .returned (.bool (Lib.validD l)) ∧ Below w.heap.size w w') := Any.utf8_ValidString Tryz.lays196 (bs l) w (by rw [bs_size]; omega) hT
  generalize bs l = S at *
  generalize Lib.validD l = B at *
  go_enter Tryz.func24, Tryz.ntmps24
  go_wp2_with fail
  refine HV.out.mono ?_
  rintro e w2 ⟨rfl, hb⟩
  have HB := Lib.hid hb
  clear hb
  go_wp2_with fail
  go_ret
  exact ⟨rfl, HB.out⟩
/-- a token, its length, and a failure with its offset -/
abbrev Nx := (Nat × List UInt8 × Nat) × Nat × Nat × Nat
def badN (i e : Nat) : Nx := ((0, [], 0), 0, i, e)
def quotedV (l : List UInt8) (i : Nat) : Nx :=
  match endL (l.drop (i + 1)) with
  | none => badN i 3
  | some n =>
    if (unescV ((l.drop (i + 1)).take n)).2.2 ≠ 0 then badN (i + 1 + (unescV ((l.drop (i + 1)).take n)).2.1) 3
    else if 400 < (unescV ((l.drop (i + 1)).take n)).1.length then badN i 6
    else if Lib.validD (unescV ((l.drop (i + 1)).take n)).1 = false then badN i 4
    else ((2, (unescV ((l.drop (i + 1)).take n)).1, i), n + 2, 0, 0)
def nextV (l : List UInt8) (i : Nat) : Nx :=
  if l.getD i 0 ∈ marksL then ((3, [l.getD i 0], i), 1, 0, 0)
  else if l.getD i 0 = 34 then quotedV l i
  else if wordLen (l.drop i) = 0 then badN i 3
  else if 40 < wordLen (l.drop i) then badN i 6
  else ((1, (l.drop i).take (wordLen (l.drop i)), i), wordLen (l.drop i), 0, 0)
def nxR (x : Nx) : Ending := .returned (.tuple #[.agg #[.int .i64 (x.1.1 : Int), .string (bs x.1.2.1), .int .i64 (x.1.2.2 : Int)], .int .i64 (x.2.1 : Int), .agg #[.int .i64 (x.2.2.1 : Int), .int .i64 (x.2.2.2 : Int)]])
def set5 (W : World) (B : Nat) (x y z p q : Value) : World := ((((W.setCell ⟨B, 0, none⟩ x).setCell ⟨B, 1, none⟩ y).setCell ⟨B, 2, none⟩ z).setCell ⟨B + 1, 0, none⟩ p).setCell ⟨B + 1, 1, none⟩ q
theorem set5_cells {W : World} {B : Nat} {a b c d e : Value} {T U : TypeId} (h1 : W.heap[B]? = some (.cells #[a, b, c] T (0, 0))) (h2 : W.heap[B + 1]? = some (.cells #[d, e] U (0, 0))) (x y z p q : Value) :
    (set5 W B x y z p q).cell? ⟨B, 0, none⟩ = some x ∧ (set5 W B x y z p q).cell? ⟨B, 1, none⟩ = some y ∧ (set5 W B x y z p q).cell? ⟨B, 2, none⟩ = some z ∧ (set5 W B x y z p q).cell? ⟨B + 1, 0, none⟩ = some p ∧ (set5 W B x y z p q).cell? ⟨B + 1, 1, none⟩ = some q := by
  have k1 := row_set (row_set (row_set h1 0 x) 1 y) 2 z
  have hne : B ≠ B + 1 := by omega
  have k2 : (((W.setCell ⟨B, 0, none⟩ x).setCell ⟨B, 1, none⟩ y).setCell ⟨B, 2, none⟩ z).heap[B + 1]? = some (.cells #[d, e] U (0, 0)) := by
    rw [Below.heap_setCell _ ⟨B, 2, none⟩ _ (B + 1) hne.symm, Below.heap_setCell _ ⟨B, 1, none⟩ _ (B + 1) hne.symm, Below.heap_setCell _ ⟨B, 0, none⟩ _ (B + 1) hne.symm]
    exact h2
  have k3 := row_set (row_set k2 0 p) 1 q
  have k4 : (set5 W B x y z p q).heap[B]? = _ := (Below.heap_setCell _ ⟨B + 1, 1, none⟩ q B hne).trans ((Below.heap_setCell _ ⟨B + 1, 0, none⟩ p B hne).trans k1)
  exact ⟨(row_cells k4 0).trans rfl, (row_cells k4 1).trans rfl, (row_cells k4 2).trans rfl, (row_cells k3 0).trans rfl, (row_cells k3 1).trans rfl⟩
theorem set5_below {base : Nat} {w W : World} {B : Nat} (h : Below base w W) (hB : base ≤ B) (x y z p q : Value) : Below base w (set5 W B x y z p q) :=
  ((((h.setCell (p := ⟨B, 0, none⟩) hB x).setCell (p := ⟨B, 1, none⟩) hB y).setCell (p := ⟨B, 2, none⟩) hB z).setCell (p := ⟨B + 1, 0, none⟩) (by show base ≤ B + 1; omega) p).setCell (p := ⟨B + 1, 1, none⟩) (by show base ≤ B + 1; omega) q
theorem endL_ltN : ∀ {l : List UInt8} {k : Nat}, endL l = some k → k < l.length
  | [], k, h => by cases h
  | [c], k, h => by
    by_cases e : c = 34
    · simp [endL, e] at h; simp; omega
    · simp [endL, e] at h
  | c :: d :: r, k, h => by
    unfold endL at h
    split at h
    · injection h with h; simp; omega
    · split at h
      · obtain ⟨j, h1, rfl⟩ := Option.map_eq_some_iff.1 h
        have := endL_ltN h1
        simp; omega
      · obtain ⟨j, h1, rfl⟩ := Option.map_eq_some_iff.1 h
        have := endL_ltN h1
        simp at this ⊢; omega
theorem ext_from (l : List UInt8) (i n : Nat) : (bs l).extract i (i + n) = bs ((l.drop i).take n) := by rw [bs_extract, List.drop_take]; congr 2; omega
set_option maxRecDepth 20000 in
set_option maxHeartbeats 8000000 in
theorem quoted_any (l : List UInt8) (i : Nat) (hi : i < l.length) (hl : l.length ≤ 100000) (w : World) (hT : TabU w) :
    Calls Tryz.prog 69 #[.string (bs l), .int .i64 (i : Int)] w fun e w' => e = nxR (quotedV l i) ∧ Below w.heap.size w w' := by
  have hsz : (bs l).size = l.length := bs_size l
  have HSZ := Lib.hid hsz
  have hle : (bs l).size ≤ 100000 := by omega
  have his : i + 1 ≤ (bs l).size := by omega
  have hex := ext_drop l (i + 1)
  have HT := Lib.hid (fun w' (h : Below w.heap.size w w') => hT.below h)
  have HCE := Lib.hid (ext_from l (i + 1))
  have hdl : (l.drop (i + 1)).length = l.length - (i + 1) := List.length_drop ..
  have HEND := Lib.hid (fun w => end_any (bs (l.drop (i + 1))) w (by rw [bs_size]; omega))
  rw [bs_data] at HEND
  have HX : Hid (∃ X, quotedV l i = X) := ⟨_, rfl⟩
  cases he : endL (l.drop (i + 1)) with
  | none =>
    have HR : Hid (quotedV l i = badN i 3) := by unfold Hid quotedV; rw [he]
    rw [endV_none he] at HEND
    clear he hT hdl hsz HX
    generalize bs l = S at *
    generalize bs (l.drop (i + 1)) = E at *
    go_enter Tryz.func69, Tryz.ntmps69
    go_upto_region 1 with (fail)
    refine wp_at_worldH ?_
    intro W hW
    have KA : Hid (W.heap[w.heap.size]? = some (.cells #[.int .i64 0, .string ⟨#[]⟩, .int .i64 0] 38 (0, 0))) := by rw [hW]; exact (Below.heap_alloc _ _ _ (by simp)).trans (row_new _ _ _)
    have KB : Hid (W.heap[w.heap.size + 1]? = some (.cells #[.int .i64 0, .int .i64 0] 55 (0, 0))) := by rw [hW]; exact row_new2 _ _ _ _
    have HB0 : Hid (Below w.heap.size w W) := by rw [hW]; exact ((Below.refl _ _).alloc (Nat.le_refl _) _).alloc (by simp) _
    clear hW
    go_wp2_with fail
    refine (HEND.out _).mono ?_
    rintro e _ ⟨rfl, rfl⟩
    have a0 := row_cells KA.out 0
    have a1 := row_cells KA.out 1
    have a2 := row_cells KA.out 2
    have b0 := row_cells KB.out 0
    have b1 := row_cells KB.out 1
    have fa0 := row_frozen KA.out 0
    have fa1 := row_frozen KA.out 1
    have fa2 := row_frozen KA.out 2
    have fb0 := row_frozen KB.out 0
    have fb1 := row_frozen KB.out 1
    go_wp2_with fail
    obtain ⟨y0, y1, y2, y3, y4⟩ := set5_cells KA.out KB.out (.int .i64 0) (.string ⟨#[]⟩) (.int .i64 0) (.int .i64 (i : Int)) (.int .i64 3)
    simp only [set5] at y0 y1 y2 y3 y4
    exact bodyPost_ret (v := .tuple #[.agg #[.int .i64 0, .string ⟨#[]⟩, .int .i64 0], .int .i64 0, .agg #[.int .i64 (i : Int), .int .i64 3]]) (by simp [results, Tryz.f69, go_sem, y0, y1, y2, y3, y4]) rfl ⟨by rw [HR.out]; simp only [nxR, badN]; rfl, set5_below HB0.out (Nat.le_refl _) _ _ _ _ _⟩
  | some n =>
    have hn := endL_ltN he
    rw [hdl] at hn
    rw [endV_some he] at HEND
    have hns : i + 1 + n ≤ (bs l).size := by omega
    have hce := HCE.out n
    have hul := unescV_len ((l.drop (i + 1)).take n)
    rw [List.length_take, hdl] at hul
    have HUN := Lib.hid (fun w => unescape_any ((l.drop (i + 1)).take n) w (by rw [List.length_take, hdl]; omega))
    have HQ : Hid (quotedV l i = if (unescV ((l.drop (i + 1)).take n)).2.2 ≠ 0 then badN (i + 1 + (unescV ((l.drop (i + 1)).take n)).2.1) 3
        else if 400 < (unescV ((l.drop (i + 1)).take n)).1.length then badN i 6
        else if Lib.validD (unescV ((l.drop (i + 1)).take n)).1 = false then badN i 4
        else ((2, (unescV ((l.drop (i + 1)).take n)).1, i), n + 2, 0, 0)) := by unfold Hid quotedV; rw [he]
    have hnb : n ≤ 100000 := by omega
    clear he hT hdl hsz HX HCE
    generalize unescV ((l.drop (i + 1)).take n) = X at *
    generalize bs ((l.drop (i + 1)).take n) = U at *
    generalize bs (l.drop (i + 1)) = E at *
    generalize bs l = S at *
    obtain ⟨x1, x2, x3⟩ := X
    simp only at HUN HQ hul
    have hx1s : (bs x1).size = x1.length := bs_size x1
    have hx1l : x1.length ≤ 100000 := by omega
    have hx2l : x2 ≤ 100000 := by omega
    have HVA := Lib.hid (fun w h => valid_any x1 hx1l w h)
    by_cases h3 : x3 = 0
    rotate_left
    · have HR : Hid (quotedV l i = badN (i + 1 + x2) 3) := by unfold Hid; rw [HQ.out, if_pos h3]
      have h3i : ((x3 : Int) == 0) = false := by simp only [beq_eq_false_iff_ne]; omega
      clear HQ h3 hul
      go_enter Tryz.func69, Tryz.ntmps69
      go_upto_region 1 with (fail)
      refine wp_at_worldH ?_
      intro W hW
      have KA : Hid (W.heap[w.heap.size]? = some (.cells #[.int .i64 0, .string ⟨#[]⟩, .int .i64 0] 38 (0, 0))) := by rw [hW]; exact (Below.heap_alloc _ _ _ (by simp)).trans (row_new _ _ _)
      have KB : Hid (W.heap[w.heap.size + 1]? = some (.cells #[.int .i64 0, .int .i64 0] 55 (0, 0))) := by rw [hW]; exact row_new2 _ _ _ _
      have HB0 : Hid (Below w.heap.size w W) := by rw [hW]; exact ((Below.refl _ _).alloc (Nat.le_refl _) _).alloc (by simp) _
      clear hW
      go_wp2_with fail
      refine (HEND.out _).mono ?_
      rintro e _ ⟨rfl, rfl⟩
      go_wp2_with fail
      refine (HUN.out _).mono ?_
      rintro e w2 ⟨rfl, hb2⟩
      have hzA : w.heap.size < W.heap.size := (Array.getElem?_eq_some_iff.1 KA.out).1
      have hzB : w.heap.size + 1 < W.heap.size := (Array.getElem?_eq_some_iff.1 KB.out).1
      replace KA : Hid (w2.heap[w.heap.size]? = some (.cells #[.int .i64 0, .string ⟨#[]⟩, .int .i64 0] 38 (0, 0))) := (hb2.block w.heap.size hzA).trans KA.out
      replace KB : Hid (w2.heap[w.heap.size + 1]? = some (.cells #[.int .i64 0, .int .i64 0] 55 (0, 0))) := (hb2.block (w.heap.size + 1) hzB).trans KB.out
      have HB2 : Hid (Below w.heap.size w w2) := HB0.out.trans (hb2.mono (by omega))
      clear hb2 hzA hzB
      have a0 := row_cells KA.out 0
      have a1 := row_cells KA.out 1
      have a2 := row_cells KA.out 2
      have b0 := row_cells KB.out 0
      have b1 := row_cells KB.out 1
      have fa0 := row_frozen KA.out 0
      have fa1 := row_frozen KA.out 1
      have fa2 := row_frozen KA.out 2
      have fb0 := row_frozen KB.out 0
      have fb1 := row_frozen KB.out 1
      go_wp2_with fail
      obtain ⟨y0, y1, y2, y3, y4⟩ := set5_cells KA.out KB.out (.int .i64 0) (.string ⟨#[]⟩) (.int .i64 0) (.int .i64 ((i : Int) + 1 + (x2 : Int))) (.int .i64 3)
      simp only [set5] at y0 y1 y2 y3 y4
      exact bodyPost_ret (v := .tuple #[.agg #[.int .i64 0, .string ⟨#[]⟩, .int .i64 0], .int .i64 0, .agg #[.int .i64 ((i : Int) + 1 + (x2 : Int)), .int .i64 3]]) (by simp [results, Tryz.f69, go_sem, y0, y1, y2, y3, y4]) rfl ⟨by rw [HR.out]; simp only [nxR, badN, Int.natCast_add]; rfl, set5_below HB2.out (Nat.le_refl _) _ _ _ _ _⟩
    subst h3
    rw [if_neg (by decide)] at HQ
    by_cases h4 : 400 < x1.length
    · have HR : Hid (quotedV l i = badN i 6) := by unfold Hid; rw [HQ.out, if_pos h4]
      have h4i : 400 < ((bs x1).size : Int) := by omega
      clear HQ h4 hul hx1s
      go_enter Tryz.func69, Tryz.ntmps69
      go_upto_region 1 with (fail)
      refine wp_at_worldH ?_
      intro W hW
      have KA : Hid (W.heap[w.heap.size]? = some (.cells #[.int .i64 0, .string ⟨#[]⟩, .int .i64 0] 38 (0, 0))) := by rw [hW]; exact (Below.heap_alloc _ _ _ (by simp)).trans (row_new _ _ _)
      have KB : Hid (W.heap[w.heap.size + 1]? = some (.cells #[.int .i64 0, .int .i64 0] 55 (0, 0))) := by rw [hW]; exact row_new2 _ _ _ _
      have HB0 : Hid (Below w.heap.size w W) := by rw [hW]; exact ((Below.refl _ _).alloc (Nat.le_refl _) _).alloc (by simp) _
      clear hW
      go_wp2_with fail
      refine (HEND.out _).mono ?_
      rintro e _ ⟨rfl, rfl⟩
      go_wp2_with fail
      refine (HUN.out _).mono ?_
      rintro e w2 ⟨rfl, hb2⟩
      have hzA : w.heap.size < W.heap.size := (Array.getElem?_eq_some_iff.1 KA.out).1
      have hzB : w.heap.size + 1 < W.heap.size := (Array.getElem?_eq_some_iff.1 KB.out).1
      replace KA : Hid (w2.heap[w.heap.size]? = some (.cells #[.int .i64 0, .string ⟨#[]⟩, .int .i64 0] 38 (0, 0))) := (hb2.block w.heap.size hzA).trans KA.out
      replace KB : Hid (w2.heap[w.heap.size + 1]? = some (.cells #[.int .i64 0, .int .i64 0] 55 (0, 0))) := (hb2.block (w.heap.size + 1) hzB).trans KB.out
      have HB2 : Hid (Below w.heap.size w w2) := HB0.out.trans (hb2.mono (by omega))
      clear hb2 hzA hzB
      have a0 := row_cells KA.out 0
      have a1 := row_cells KA.out 1
      have a2 := row_cells KA.out 2
      have b0 := row_cells KB.out 0
      have b1 := row_cells KB.out 1
      have fa0 := row_frozen KA.out 0
      have fa1 := row_frozen KA.out 1
      have fa2 := row_frozen KA.out 2
      have fb0 := row_frozen KB.out 0
      have fb1 := row_frozen KB.out 1
      go_wp2_with fail
      obtain ⟨y0, y1, y2, y3, y4⟩ := set5_cells KA.out KB.out (.int .i64 0) (.string ⟨#[]⟩) (.int .i64 0) (.int .i64 (i : Int)) (.int .i64 6)
      simp only [set5] at y0 y1 y2 y3 y4
      exact bodyPost_ret (v := .tuple #[.agg #[.int .i64 0, .string ⟨#[]⟩, .int .i64 0], .int .i64 0, .agg #[.int .i64 (i : Int), .int .i64 6]]) (by simp [results, Tryz.f69, go_sem, y0, y1, y2, y3, y4]) rfl ⟨by rw [HR.out]; simp only [nxR, badN]; rfl, set5_below HB2.out (Nat.le_refl _) _ _ _ _ _⟩
    have h4i : ¬ 400 < ((bs x1).size : Int) := by omega
    rw [if_neg h4] at HQ
    cases hv : Lib.validD x1
    · have HR : Hid (quotedV l i = badN i 4) := by unfold Hid; rw [HQ.out, if_pos hv]
      rw [hv] at HVA
      clear HQ h4 hul hx1s hv
      go_enter Tryz.func69, Tryz.ntmps69
      go_upto_region 1 with (fail)
      refine wp_at_worldH ?_
      intro W hW
      have KA : Hid (W.heap[w.heap.size]? = some (.cells #[.int .i64 0, .string ⟨#[]⟩, .int .i64 0] 38 (0, 0))) := by rw [hW]; exact (Below.heap_alloc _ _ _ (by simp)).trans (row_new _ _ _)
      have KB : Hid (W.heap[w.heap.size + 1]? = some (.cells #[.int .i64 0, .int .i64 0] 55 (0, 0))) := by rw [hW]; exact row_new2 _ _ _ _
      have HB0 : Hid (Below w.heap.size w W) := by rw [hW]; exact ((Below.refl _ _).alloc (Nat.le_refl _) _).alloc (by simp) _
      clear hW
      go_wp2_with fail
      refine (HEND.out _).mono ?_
      rintro e _ ⟨rfl, rfl⟩
      go_wp2_with fail
      refine (HUN.out _).mono ?_
      rintro e w2 ⟨rfl, hb2⟩
      have hzA : w.heap.size < W.heap.size := (Array.getElem?_eq_some_iff.1 KA.out).1
      have hzB : w.heap.size + 1 < W.heap.size := (Array.getElem?_eq_some_iff.1 KB.out).1
      replace KA : Hid (w2.heap[w.heap.size]? = some (.cells #[.int .i64 0, .string ⟨#[]⟩, .int .i64 0] 38 (0, 0))) := (hb2.block w.heap.size hzA).trans KA.out
      replace KB : Hid (w2.heap[w.heap.size + 1]? = some (.cells #[.int .i64 0, .int .i64 0] 55 (0, 0))) := (hb2.block (w.heap.size + 1) hzB).trans KB.out
      have HB2 : Hid (Below w.heap.size w w2) := HB0.out.trans (hb2.mono (by omega))
      clear hb2 hzA hzB
      go_wp2_with fail
      refine (HVA.out _ (HT.out _ HB2.out)).mono ?_
      rintro e w3 ⟨rfl, hb3⟩
      have hzA : w.heap.size < w2.heap.size := (Array.getElem?_eq_some_iff.1 KA.out).1
      have hzB : w.heap.size + 1 < w2.heap.size := (Array.getElem?_eq_some_iff.1 KB.out).1
      replace KA : Hid (w3.heap[w.heap.size]? = some (.cells #[.int .i64 0, .string ⟨#[]⟩, .int .i64 0] 38 (0, 0))) := (hb3.block w.heap.size hzA).trans KA.out
      replace KB : Hid (w3.heap[w.heap.size + 1]? = some (.cells #[.int .i64 0, .int .i64 0] 55 (0, 0))) := (hb3.block (w.heap.size + 1) hzB).trans KB.out
      have HB3 : Hid (Below w.heap.size w w3) := HB2.out.trans (hb3.mono (by omega))
      clear hb3 hzA hzB
      have a0 := row_cells KA.out 0
      have a1 := row_cells KA.out 1
      have a2 := row_cells KA.out 2
      have b0 := row_cells KB.out 0
      have b1 := row_cells KB.out 1
      have fa0 := row_frozen KA.out 0
      have fa1 := row_frozen KA.out 1
      have fa2 := row_frozen KA.out 2
      have fb0 := row_frozen KB.out 0
      have fb1 := row_frozen KB.out 1
      go_wp2_with fail
      obtain ⟨y0, y1, y2, y3, y4⟩ := set5_cells KA.out KB.out (.int .i64 0) (.string ⟨#[]⟩) (.int .i64 0) (.int .i64 (i : Int)) (.int .i64 4)
      simp only [set5] at y0 y1 y2 y3 y4
      exact bodyPost_ret (v := .tuple #[.agg #[.int .i64 0, .string ⟨#[]⟩, .int .i64 0], .int .i64 0, .agg #[.int .i64 (i : Int), .int .i64 4]]) (by simp [results, Tryz.f69, go_sem, y0, y1, y2, y3, y4]) rfl ⟨by rw [HR.out]; simp only [nxR, badN]; rfl, set5_below HB3.out (Nat.le_refl _) _ _ _ _ _⟩
    · have HR : Hid (quotedV l i = ((2, x1, i), n + 2, 0, 0)) := by unfold Hid; rw [HQ.out, if_neg (by rw [hv]; decide)]
      rw [hv] at HVA
      clear HQ h4 hul hx1s hv
      go_enter Tryz.func69, Tryz.ntmps69
      go_upto_region 1 with (fail)
      refine wp_at_worldH ?_
      intro W hW
      have KA : Hid (W.heap[w.heap.size]? = some (.cells #[.int .i64 0, .string ⟨#[]⟩, .int .i64 0] 38 (0, 0))) := by rw [hW]; exact (Below.heap_alloc _ _ _ (by simp)).trans (row_new _ _ _)
      have KB : Hid (W.heap[w.heap.size + 1]? = some (.cells #[.int .i64 0, .int .i64 0] 55 (0, 0))) := by rw [hW]; exact row_new2 _ _ _ _
      have HB0 : Hid (Below w.heap.size w W) := by rw [hW]; exact ((Below.refl _ _).alloc (Nat.le_refl _) _).alloc (by simp) _
      clear hW
      go_wp2_with fail
      refine (HEND.out _).mono ?_
      rintro e _ ⟨rfl, rfl⟩
      go_wp2_with fail
      refine (HUN.out _).mono ?_
      rintro e w2 ⟨rfl, hb2⟩
      have hzA : w.heap.size < W.heap.size := (Array.getElem?_eq_some_iff.1 KA.out).1
      have hzB : w.heap.size + 1 < W.heap.size := (Array.getElem?_eq_some_iff.1 KB.out).1
      replace KA : Hid (w2.heap[w.heap.size]? = some (.cells #[.int .i64 0, .string ⟨#[]⟩, .int .i64 0] 38 (0, 0))) := (hb2.block w.heap.size hzA).trans KA.out
      replace KB : Hid (w2.heap[w.heap.size + 1]? = some (.cells #[.int .i64 0, .int .i64 0] 55 (0, 0))) := (hb2.block (w.heap.size + 1) hzB).trans KB.out
      have HB2 : Hid (Below w.heap.size w w2) := HB0.out.trans (hb2.mono (by omega))
      clear hb2 hzA hzB
      go_wp2_with fail
      refine (HVA.out _ (HT.out _ HB2.out)).mono ?_
      rintro e w3 ⟨rfl, hb3⟩
      have hzA : w.heap.size < w2.heap.size := (Array.getElem?_eq_some_iff.1 KA.out).1
      have hzB : w.heap.size + 1 < w2.heap.size := (Array.getElem?_eq_some_iff.1 KB.out).1
      replace KA : Hid (w3.heap[w.heap.size]? = some (.cells #[.int .i64 0, .string ⟨#[]⟩, .int .i64 0] 38 (0, 0))) := (hb3.block w.heap.size hzA).trans KA.out
      replace KB : Hid (w3.heap[w.heap.size + 1]? = some (.cells #[.int .i64 0, .int .i64 0] 55 (0, 0))) := (hb3.block (w.heap.size + 1) hzB).trans KB.out
      have HB3 : Hid (Below w.heap.size w w3) := HB2.out.trans (hb3.mono (by omega))
      clear hb3 hzA hzB
      have a0 := row_cells KA.out 0
      have a1 := row_cells KA.out 1
      have a2 := row_cells KA.out 2
      have b0 := row_cells KB.out 0
      have b1 := row_cells KB.out 1
      have fa0 := row_frozen KA.out 0
      have fa1 := row_frozen KA.out 1
      have fa2 := row_frozen KA.out 2
      have fb0 := row_frozen KB.out 0
      have fb1 := row_frozen KB.out 1
      go_wp2_with fail
      obtain ⟨y0, y1, y2, y3, y4⟩ := set5_cells KA.out KB.out (.int .i64 2) (.string (bs x1)) (.int .i64 (i : Int)) (.int .i64 0) (.int .i64 0)
      simp only [set5] at y0 y1 y2 y3 y4
      exact bodyPost_ret (v := .tuple #[.agg #[.int .i64 2, .string (bs x1), .int .i64 (i : Int)], .int .i64 ((n : Int) + 2), .agg #[.int .i64 0, .int .i64 0]]) (by simp [results, Tryz.f69, go_sem, y0, y1, y2, y3, y4]) rfl ⟨by rw [HR.out]; simp only [nxR, Int.natCast_add]; rfl, set5_below HB3.out (Nat.le_refl _) _ _ _ _ _⟩
end Go.Proofs.YtpionddponmdmaaGreatDoor
