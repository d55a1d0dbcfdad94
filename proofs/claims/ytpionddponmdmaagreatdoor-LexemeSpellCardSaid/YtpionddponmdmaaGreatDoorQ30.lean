/- Walks: lexeme's next, of any string. -/
import Derived.Test.YtpionddponmdmaaGreatDoorQ29
import Derived.Test.YtpionddponmdmaaGreatDoorQ12
import Derived.Sort.CutIn
namespace Go.Proofs.YtpionddponmdmaaGreatDoor
open Go.RowKit
attribute [local go_sem] Ext.cell Ext.frozen
attribute [local go_sem ↓] Go.wp_at_zero Go.wp_at_succ
set_option maxRecDepth 20000 in
set_option maxHeartbeats 8000000 in
theorem next_any (l : List UInt8) (i : Nat) (hi : i < l.length) (hl : l.length ≤ 100000) (w : World) (hT : TabU w) :
    Calls Tryz.prog 45 #[.string (bs l), .int .i64 (i : Int)] w fun e w' => e = nxR (nextV l i) ∧ Below w.heap.size w w' := by
  have hsz : (bs l).size = l.length := bs_size l
  have hle : (bs l).size ≤ 100000 := by omega
  have his : i < (bs l).size := by omega
  have hix : ∀ g : i < (bs l).size, (bs l)[i]'g = l.getD i 0 := fun g => ba_at l g
  have he1 : (bs l).extract i (i + 1) = bs [l.getD i 0] := ext_one l hi
  have hex := ext_drop l i
  have HEN := Lib.hid (ext_from l i)
  have HT := Lib.hid (fun w' (h : Below w.heap.size w w') => hT.below h)
  have HIN : Hid (∀ w, Calls Tryz.prog 16 #[.int .u8 ((l.getD i 0).toNat : Int), .string ⟨#[123, 125, 59]⟩] w fun e w' => e = .returned (.bool (decide (l.getD i 0 ∈ marksL))) ∧ w = w') := fun w => in_any _ marksL w
  have HQT := Lib.hid (fun w h => quoted_any l i hi hl w h)
  have hdl : (l.drop i).length = l.length - i := List.length_drop ..
  have HRN : Hid (∀ w, Calls Tryz.prog 21 #[.string (bs (l.drop i)), .string ⟨#[65, 66, 67, 68, 69, 70, 71, 72, 73, 74, 75, 76, 77, 78, 79, 80, 81, 82, 83, 84, 85, 86, 87, 88, 89, 90, 97, 98, 99, 100, 101, 102, 103, 104, 105, 106, 107, 108, 109, 110, 111, 112, 113, 114, 115, 116, 117, 118, 119, 120, 121, 122, 48, 49, 50, 51, 52, 53, 54, 55, 56, 57, 45, 95]⟩] w fun e w' => e = .returned (.int .i64 (wordLen (l.drop i) : Int)) ∧ Below w.heap.size w w') := fun w => run_any (l.drop i) (by omega) w
  have hwl := wordLen_le (l.drop i)
  have HN : Hid (nextV l i = if l.getD i 0 ∈ marksL then ((3, [l.getD i 0], i), 1, 0, 0) else if l.getD i 0 = 34 then quotedV l i else if wordLen (l.drop i) = 0 then badN i 3 else if 40 < wordLen (l.drop i) then badN i 6 else ((1, (l.drop i).take (wordLen (l.drop i)), i), wordLen (l.drop i), 0, 0)) := rfl
  have hce := HEN.out (wordLen (l.drop i))
  have hwb : wordLen (l.drop i) ≤ 100000 := by omega
  have hws : i + wordLen (l.drop i) ≤ (bs l).size := by omega
  have hib : i ≤ 100000 := by omega
  clear hT HEN hdl hwl
  generalize l.getD i 0 = c at *
  generalize hwd : wordLen (l.drop i) = n at *
  generalize bs (l.drop i) = E at *
  generalize bs l = S at *
  clear hwd
  by_cases hm : c ∈ marksL
  · have HR : Hid (nextV l i = ((3, [c], i), 1, 0, 0)) := by unfold Hid; rw [HN.out, if_pos hm]
    rw [decide_eq_true hm] at HIN
    clear HN hm hsz
    go_enter Tryz.func45, Tryz.ntmps45
    go_upto_region 1 with (fail)
    refine wp_at_worldH ?_
    intro W hW
    have KA : Hid (W.heap[w.heap.size]? = some (.cells #[.int .i64 0, .string ⟨#[]⟩, .int .i64 0] 38 (0, 0))) := by rw [hW]; exact (Below.heap_alloc _ _ _ (by simp)).trans (row_new _ _ _)
    have KB : Hid (W.heap[w.heap.size + 1]? = some (.cells #[.int .i64 0, .int .i64 0] 55 (0, 0))) := by rw [hW]; exact row_new2 _ _ _ _
    have HB0 : Hid (Below w.heap.size w W) := by rw [hW]; exact ((Below.refl _ _).alloc (Nat.le_refl _) _).alloc (by simp) _
    clear hW
    go_wp2_with fail
    refine (HIN.out _).mono ?_
    rintro e _ ⟨rfl, rfl⟩
    have a0 := row_cells KA.out 0
    have a1 := row_cells KA.out 1
    have a2 := row_cells KA.out 2
    have b0 := row_cells KB.out 0
    have b1 := row_cells KB.out 1
    have fa0 := row_frozen KA.out 0
    have fa1 := row_frozen KA.out 1
    have fa2 := row_frozen KA.out 2
    have fb0 := row_frozen KB.out 0
    have fb1 := row_frozen KB.out 1
    go_wp2_with fail
    obtain ⟨y0, y1, y2, y3, y4⟩ := set5_cells KA.out KB.out (.int .i64 3) (.string (bs [c])) (.int .i64 (i : Int)) (.int .i64 0) (.int .i64 0)
    simp only [set5] at y0 y1 y2 y3 y4
    exact bodyPost_ret (v := .tuple #[.agg #[.int .i64 3, .string (bs [c]), .int .i64 (i : Int)], .int .i64 1, .agg #[.int .i64 0, .int .i64 0]]) (by simp [results, Tryz.f45, go_sem, y0, y1, y2, y3, y4]) rfl ⟨by rw [HR.out]; simp only [nxR]; rfl, set5_below HB0.out (Nat.le_refl _) _ _ _ _ _⟩
  rw [decide_eq_false hm] at HIN
  rw [if_neg hm] at HN
  by_cases h34 : c = 34
  · subst h34
    rw [if_pos rfl] at HN
    obtain ⟨X, hX⟩ : ∃ X, quotedV l i = X := ⟨_, rfl⟩
    rw [hX] at HN HQT
    clear hX hm hsz
    obtain ⟨⟨x1, x2, x3⟩, x4, x5, x6⟩ := X
    simp only [nxR] at HQT
    go_enter Tryz.func45, Tryz.ntmps45
    go_upto_region 1 with (fail)
    refine wp_at_worldH ?_
    intro W hW
    have KA : Hid (W.heap[w.heap.size]? = some (.cells #[.int .i64 0, .string ⟨#[]⟩, .int .i64 0] 38 (0, 0))) := by rw [hW]; exact (Below.heap_alloc _ _ _ (by simp)).trans (row_new _ _ _)
    have KB : Hid (W.heap[w.heap.size + 1]? = some (.cells #[.int .i64 0, .int .i64 0] 55 (0, 0))) := by rw [hW]; exact row_new2 _ _ _ _
    have HB0 : Hid (Below w.heap.size w W) := by rw [hW]; exact ((Below.refl _ _).alloc (Nat.le_refl _) _).alloc (by simp) _
    clear hW
    go_wp2_with fail
    refine (HIN.out _).mono ?_
    rintro e _ ⟨rfl, rfl⟩
    go_wp2_with fail
    refine (HQT.out _ (HT.out _ HB0.out)).mono ?_
    rintro e w2 ⟨rfl, hb2⟩
    have hzA : w.heap.size < W.heap.size := (Array.getElem?_eq_some_iff.1 KA.out).1
    have hzB : w.heap.size + 1 < W.heap.size := (Array.getElem?_eq_some_iff.1 KB.out).1
    replace KA : Hid (w2.heap[w.heap.size]? = some (.cells #[.int .i64 0, .string ⟨#[]⟩, .int .i64 0] 38 (0, 0))) := (hb2.block w.heap.size hzA).trans KA.out
    replace KB : Hid (w2.heap[w.heap.size + 1]? = some (.cells #[.int .i64 0, .int .i64 0] 55 (0, 0))) := (hb2.block (w.heap.size + 1) hzB).trans KB.out
    have HB2 : Hid (Below w.heap.size w w2) := HB0.out.trans (hb2.mono (by omega))
    clear hb2 hzA hzB
    have a0 := row_cells KA.out 0
    have a1 := row_cells KA.out 1
    have a2 := row_cells KA.out 2
    have b0 := row_cells KB.out 0
    have b1 := row_cells KB.out 1
    have fa0 := row_frozen KA.out 0
    have fa1 := row_frozen KA.out 1
    have fa2 := row_frozen KA.out 2
    have fb0 := row_frozen KB.out 0
    have fb1 := row_frozen KB.out 1
    go_wp2_with fail
    obtain ⟨y0, y1, y2, y3, y4⟩ := set5_cells KA.out KB.out (.int .i64 (x1 : Int)) (.string (bs x2)) (.int .i64 (x3 : Int)) (.int .i64 (x5 : Int)) (.int .i64 (x6 : Int))
    simp only [set5] at y0 y1 y2 y3 y4
    exact bodyPost_ret (v := .tuple #[.agg #[.int .i64 (x1 : Int), .string (bs x2), .int .i64 (x3 : Int)], .int .i64 (x4 : Int), .agg #[.int .i64 (x5 : Int), .int .i64 (x6 : Int)]]) (by simp [results, Tryz.f45, go_sem, y0, y1, y2, y3, y4]) rfl ⟨by rw [HN.out]; simp only [nxR], set5_below HB2.out (Nat.le_refl _) _ _ _ _ _⟩
  have g34 : ((c.toNat : Int) == 34) = false := neU h34
  rw [if_neg h34] at HN
  by_cases h0 : n = 0
  · have HR : Hid (nextV l i = badN i 3) := by unfold Hid; rw [HN.out, if_pos h0]
    have h0i : (n : Int) = 0 := by omega
    clear HN hm hsz h34 h0
    go_enter Tryz.func45, Tryz.ntmps45
    go_upto_region 1 with (fail)
    refine wp_at_worldH ?_
    intro W hW
    have KA : Hid (W.heap[w.heap.size]? = some (.cells #[.int .i64 0, .string ⟨#[]⟩, .int .i64 0] 38 (0, 0))) := by rw [hW]; exact (Below.heap_alloc _ _ _ (by simp)).trans (row_new _ _ _)
    have KB : Hid (W.heap[w.heap.size + 1]? = some (.cells #[.int .i64 0, .int .i64 0] 55 (0, 0))) := by rw [hW]; exact row_new2 _ _ _ _
    have HB0 : Hid (Below w.heap.size w W) := by rw [hW]; exact ((Below.refl _ _).alloc (Nat.le_refl _) _).alloc (by simp) _
    clear hW
    go_wp2_with fail
    refine (HIN.out _).mono ?_
    rintro e _ ⟨rfl, rfl⟩
    go_wp2_with fail
    refine (HRN.out _).mono ?_
    rintro e w2 ⟨rfl, hb2⟩
    have hzA : w.heap.size < W.heap.size := (Array.getElem?_eq_some_iff.1 KA.out).1
    have hzB : w.heap.size + 1 < W.heap.size := (Array.getElem?_eq_some_iff.1 KB.out).1
    replace KA : Hid (w2.heap[w.heap.size]? = some (.cells #[.int .i64 0, .string ⟨#[]⟩, .int .i64 0] 38 (0, 0))) := (hb2.block w.heap.size hzA).trans KA.out
    replace KB : Hid (w2.heap[w.heap.size + 1]? = some (.cells #[.int .i64 0, .int .i64 0] 55 (0, 0))) := (hb2.block (w.heap.size + 1) hzB).trans KB.out
    have HB2 : Hid (Below w.heap.size w w2) := HB0.out.trans (hb2.mono (by omega))
    clear hb2 hzA hzB
    have a0 := row_cells KA.out 0
    have a1 := row_cells KA.out 1
    have a2 := row_cells KA.out 2
    have b0 := row_cells KB.out 0
    have b1 := row_cells KB.out 1
    have fa0 := row_frozen KA.out 0
    have fa1 := row_frozen KA.out 1
    have fa2 := row_frozen KA.out 2
    have fb0 := row_frozen KB.out 0
    have fb1 := row_frozen KB.out 1
    go_wp2_with fail
    obtain ⟨y0, y1, y2, y3, y4⟩ := set5_cells KA.out KB.out (.int .i64 0) (.string ⟨#[]⟩) (.int .i64 0) (.int .i64 (i : Int)) (.int .i64 3)
    simp only [set5] at y0 y1 y2 y3 y4
    exact bodyPost_ret (v := .tuple #[.agg #[.int .i64 0, .string ⟨#[]⟩, .int .i64 0], .int .i64 0, .agg #[.int .i64 (i : Int), .int .i64 3]]) (by simp [results, Tryz.f45, go_sem, y0, y1, y2, y3, y4]) rfl ⟨by rw [HR.out]; simp only [nxR, badN]; rfl, set5_below HB2.out (Nat.le_refl _) _ _ _ _ _⟩
  have h0i : ((n : Int) == 0) = false := by simp only [beq_eq_false_iff_ne]; omega
  rw [if_neg h0] at HN
  by_cases h40 : 40 < n
  · have HR : Hid (nextV l i = badN i 6) := by unfold Hid; rw [HN.out, if_pos h40]
    have h4i : 40 < (n : Int) := by omega
    clear HN hm hsz h34 h0
    go_enter Tryz.func45, Tryz.ntmps45
    go_upto_region 1 with (fail)
    refine wp_at_worldH ?_
    intro W hW
    have KA : Hid (W.heap[w.heap.size]? = some (.cells #[.int .i64 0, .string ⟨#[]⟩, .int .i64 0] 38 (0, 0))) := by rw [hW]; exact (Below.heap_alloc _ _ _ (by simp)).trans (row_new _ _ _)
    have KB : Hid (W.heap[w.heap.size + 1]? = some (.cells #[.int .i64 0, .int .i64 0] 55 (0, 0))) := by rw [hW]; exact row_new2 _ _ _ _
    have HB0 : Hid (Below w.heap.size w W) := by rw [hW]; exact ((Below.refl _ _).alloc (Nat.le_refl _) _).alloc (by simp) _
    clear hW
    go_wp2_with fail
    refine (HIN.out _).mono ?_
    rintro e _ ⟨rfl, rfl⟩
    go_wp2_with fail
    refine (HRN.out _).mono ?_
    rintro e w2 ⟨rfl, hb2⟩
    have hzA : w.heap.size < W.heap.size := (Array.getElem?_eq_some_iff.1 KA.out).1
    have hzB : w.heap.size + 1 < W.heap.size := (Array.getElem?_eq_some_iff.1 KB.out).1
    replace KA : Hid (w2.heap[w.heap.size]? = some (.cells #[.int .i64 0, .string ⟨#[]⟩, .int .i64 0] 38 (0, 0))) := (hb2.block w.heap.size hzA).trans KA.out
    replace KB : Hid (w2.heap[w.heap.size + 1]? = some (.cells #[.int .i64 0, .int .i64 0] 55 (0, 0))) := (hb2.block (w.heap.size + 1) hzB).trans KB.out
    have HB2 : Hid (Below w.heap.size w w2) := HB0.out.trans (hb2.mono (by omega))
    clear hb2 hzA hzB
    have a0 := row_cells KA.out 0
    have a1 := row_cells KA.out 1
    have a2 := row_cells KA.out 2
    have b0 := row_cells KB.out 0
    have b1 := row_cells KB.out 1
    have fa0 := row_frozen KA.out 0
    have fa1 := row_frozen KA.out 1
    have fa2 := row_frozen KA.out 2
    have fb0 := row_frozen KB.out 0
    have fb1 := row_frozen KB.out 1
    go_wp2_with fail
    obtain ⟨y0, y1, y2, y3, y4⟩ := set5_cells KA.out KB.out (.int .i64 0) (.string ⟨#[]⟩) (.int .i64 0) (.int .i64 (i : Int)) (.int .i64 6)
    simp only [set5] at y0 y1 y2 y3 y4
    exact bodyPost_ret (v := .tuple #[.agg #[.int .i64 0, .string ⟨#[]⟩, .int .i64 0], .int .i64 0, .agg #[.int .i64 (i : Int), .int .i64 6]]) (by simp [results, Tryz.f45, go_sem, y0, y1, y2, y3, y4]) rfl ⟨by rw [HR.out]; simp only [nxR, badN]; rfl, set5_below HB2.out (Nat.le_refl _) _ _ _ _ _⟩
  have h4i : ¬ 40 < (n : Int) := by omega
  have HR : Hid (nextV l i = ((1, (l.drop i).take n, i), n, 0, 0)) := by unfold Hid; rw [HN.out, if_neg h40]
  obtain ⟨V, hV⟩ : ∃ V, bs ((l.drop i).take n) = V := ⟨_, rfl⟩
  have HV := Lib.hid hV
  rw [hV] at hce
  clear HN hm hsz h34 h0 hV
  go_enter Tryz.func45, Tryz.ntmps45
  go_upto_region 1 with (fail)
  refine wp_at_worldH ?_
  intro W hW
  have KA : Hid (W.heap[w.heap.size]? = some (.cells #[.int .i64 0, .string ⟨#[]⟩, .int .i64 0] 38 (0, 0))) := by rw [hW]; exact (Below.heap_alloc _ _ _ (by simp)).trans (row_new _ _ _)
  have KB : Hid (W.heap[w.heap.size + 1]? = some (.cells #[.int .i64 0, .int .i64 0] 55 (0, 0))) := by rw [hW]; exact row_new2 _ _ _ _
  have HB0 : Hid (Below w.heap.size w W) := by rw [hW]; exact ((Below.refl _ _).alloc (Nat.le_refl _) _).alloc (by simp) _
  clear hW
  go_wp2_with fail
  refine (HIN.out _).mono ?_
  rintro e _ ⟨rfl, rfl⟩
  go_wp2_with fail
  refine (HRN.out _).mono ?_
  rintro e w2 ⟨rfl, hb2⟩
  have hzA : w.heap.size < W.heap.size := (Array.getElem?_eq_some_iff.1 KA.out).1
  have hzB : w.heap.size + 1 < W.heap.size := (Array.getElem?_eq_some_iff.1 KB.out).1
  replace KA : Hid (w2.heap[w.heap.size]? = some (.cells #[.int .i64 0, .string ⟨#[]⟩, .int .i64 0] 38 (0, 0))) := (hb2.block w.heap.size hzA).trans KA.out
  replace KB : Hid (w2.heap[w.heap.size + 1]? = some (.cells #[.int .i64 0, .int .i64 0] 55 (0, 0))) := (hb2.block (w.heap.size + 1) hzB).trans KB.out
  have HB2 : Hid (Below w.heap.size w w2) := HB0.out.trans (hb2.mono (by omega))
  clear hb2 hzA hzB
  have a0 := row_cells KA.out 0
  have a1 := row_cells KA.out 1
  have a2 := row_cells KA.out 2
  have b0 := row_cells KB.out 0
  have b1 := row_cells KB.out 1
  have fa0 := row_frozen KA.out 0
  have fa1 := row_frozen KA.out 1
  have fa2 := row_frozen KA.out 2
  have fb0 := row_frozen KB.out 0
  have fb1 := row_frozen KB.out 1
  go_wp2_with fail
  obtain ⟨y0, y1, y2, y3, y4⟩ := set5_cells KA.out KB.out (.int .i64 1) (.string V) (.int .i64 (i : Int)) (.int .i64 0) (.int .i64 0)
  simp only [set5] at y0 y1 y2 y3 y4
  exact bodyPost_ret (v := .tuple #[.agg #[.int .i64 1, .string V, .int .i64 (i : Int)], .int .i64 (n : Int), .agg #[.int .i64 0, .int .i64 0]]) (by simp [results, Tryz.f45, go_sem, y0, y1, y2, y3, y4]) rfl ⟨by rw [HR.out]; simp only [nxR]; rw [HV.out]; rfl, set5_below HB2.out (Nat.le_refl _) _ _ _ _ _⟩
end Go.Proofs.YtpionddponmdmaaGreatDoor
/- Walks inside a fence: the iterator over the tokens of a string. -/
namespace Go.Proofs.YtpionddponmdmaaGreatDoor
open Go.RowKit Go.Shelf
attribute [local go_sem] Oper.semAt_some
def skipAt (l : List UInt8) (i : Nat) : Nat := i + skipS false (l.drop i)
theorem skipAt_le (l : List UInt8) {i : Nat} (h : i ≤ l.length) : skipAt l i ≤ l.length := by
  have := skip_le false (l.drop i)
  rw [List.length_drop] at this
  unfold skipAt
  omega
def posV (l : List UInt8) : Nat → Nat
  | 0 => skipAt l 0
  | k + 1 => skipAt l (posV l k + (nextV l (posV l k)).2.1)
def itemV (l : List UInt8) (k : Nat) : Nx := nextV l (posV l k)
theorem quoted_len (l : List UInt8) (i : Nat) (h : i < l.length) : i + (quotedV l i).2.1 ≤ l.length := by
  unfold quotedV
  split
  · show i + 0 ≤ _; omega
  · rename_i n hn
    have := endL_ltN hn
    rw [List.length_drop] at this
    split
    · show i + 0 ≤ _; omega
    · split
      · show i + 0 ≤ _; omega
      · split
        · show i + 0 ≤ _; omega
        · show i + (n + 2) ≤ _; omega
theorem next_len (l : List UInt8) (i : Nat) (h : i < l.length) : i + (nextV l i).2.1 ≤ l.length := by
  unfold nextV
  split
  · show i + 1 ≤ _; omega
  · split
    · exact quoted_len l i h
    · have := wordLen_le (l.drop i)
      rw [List.length_drop] at this
      split
      · show i + 0 ≤ _; omega
      · split
        · show i + 0 ≤ _; omega
        · show i + wordLen (l.drop i) ≤ _; omega
theorem quoted_pos (l : List UInt8) (i : Nat) (h : (quotedV l i).2.2.2 = 0) : 1 ≤ (quotedV l i).2.1 := by
  unfold quotedV at h ⊢
  cases hn : endL (l.drop (i + 1)) with
  | none => rw [hn] at h; exact absurd (show (3 : Nat) = 0 from h) (by decide)
  | some n =>
    rw [hn] at h
    show 1 ≤ (if (unescV ((l.drop (i + 1)).take n)).2.2 ≠ 0 then badN (i + 1 + (unescV ((l.drop (i + 1)).take n)).2.1) 3 else if 400 < (unescV ((l.drop (i + 1)).take n)).1.length then badN i 6
      else if Lib.validD (unescV ((l.drop (i + 1)).take n)).1 = false then badN i 4 else ((2, (unescV ((l.drop (i + 1)).take n)).1, i), n + 2, 0, 0) : Nx).2.1
    replace h : (if (unescV ((l.drop (i + 1)).take n)).2.2 ≠ 0 then badN (i + 1 + (unescV ((l.drop (i + 1)).take n)).2.1) 3 else if 400 < (unescV ((l.drop (i + 1)).take n)).1.length then badN i 6
      else if Lib.validD (unescV ((l.drop (i + 1)).take n)).1 = false then badN i 4 else ((2, (unescV ((l.drop (i + 1)).take n)).1, i), n + 2, 0, 0) : Nx).2.2.2 = 0 := h
    split at h
    · exact absurd (show (3 : Nat) = 0 from h) (by decide)
    · rename_i h1
      rw [if_neg h1]
      split at h
      · exact absurd (show (6 : Nat) = 0 from h) (by decide)
      · rename_i h2
        rw [if_neg h2]
        split at h
        · exact absurd (show (4 : Nat) = 0 from h) (by decide)
        · rename_i h3
          rw [if_neg h3]
          show 1 ≤ n + 2
          omega
theorem next_pos (l : List UInt8) (i : Nat) (h : (nextV l i).2.2.2 = 0) : 1 ≤ (nextV l i).2.1 := by
  unfold nextV at h ⊢
  split at h
  · rename_i h1; rw [if_pos h1]; show 1 ≤ 1; omega
  · rename_i h1
    rw [if_neg h1]
    split at h
    · rename_i h2; rw [if_pos h2]; exact quoted_pos l i h
    · rename_i h2
      rw [if_neg h2]
      split at h
      · exact absurd (show (3 : Nat) = 0 from h) (by decide)
      · rename_i h3
        rw [if_neg h3]
        split at h
        · exact absurd (show (6 : Nat) = 0 from h) (by decide)
        · rename_i h4
          rw [if_neg h4]
          show 1 ≤ wordLen (l.drop i)
          omega
def RunP (l : List UInt8) (M : Nat) : Prop :=
  (∀ k, k < M → posV l k < l.length) ∧ (∀ k, k + 1 < M → (itemV l k).2.2.2 = 0) ∧ ((l.length ≤ posV l M ∧ ∀ k, k < M → (itemV l k).2.2.2 = 0) ∨ (0 < M ∧ (itemV l (M - 1)).2.2.2 ≠ 0))
theorem run_from (l : List UInt8) : ∀ (m k : Nat), l.length - posV l k ≤ m → posV l k ≤ l.length → (∀ q, q < k → posV l q < l.length ∧ (itemV l q).2.2.2 = 0) → k ≤ posV l k → ∃ M, RunP l M ∧ M ≤ l.length + 1
  | m, k, hm, hp, hq, hk => by
    by_cases hlt : posV l k < l.length
    · have hnl := next_len l _ hlt
      by_cases hok : (itemV l k).2.2.2 = 0
      · have hnp := next_pos l _ hok
        have h1 : posV l k + (nextV l (posV l k)).2.1 ≤ posV l (k + 1) := by show _ ≤ skipAt l _; unfold skipAt; omega
        match m, hm with
        | 0, hm => omega
        | m + 1, hm =>
          exact run_from l m (k + 1) (by omega) (skipAt_le l hnl) (fun q h => by
            by_cases e : q = k
            · subst e; exact ⟨hlt, hok⟩
            · exact hq q (by omega)) (by omega)
      · refine ⟨k + 1, ⟨fun q h => ?_, fun q h => (hq q (by omega)).2, .inr ⟨by omega, hok⟩⟩, by omega⟩
        by_cases e : q = k
        · subst e; exact hlt
        · exact (hq q (by omega)).1
    · exact ⟨k, ⟨fun q h => (hq q h).1, fun q h => (hq q (by omega)).2, .inl ⟨by omega, fun q h => (hq q h).2⟩⟩, by omega⟩
theorem run_exists (l : List UInt8) : ∃ M, RunP l M ∧ M ≤ l.length + 1 :=
  run_from l l.length 0 (by omega) (skipAt_le l (Nat.zero_le _)) (fun q h => absurd h (Nat.not_lt_zero _)) (Nat.zero_le _)
abbrev nxE (x : Nx) : Array Value := #[.agg #[.int .i64 (x.1.1 : Int), .string (bs x.1.2.1), .int .i64 (x.1.2.2 : Int)], .agg #[.int .i64 (x.2.2.1 : Int), .int .i64 (x.2.2.2 : Int)]]
def KeepF (S : Nat → Prop) (W W' : World) : Prop := KeepS S W W' ∧ (∀ (k : Nat) (cs : Array Value) (fr : Nat × Nat), W.heap[k]? = some (Obj.cells cs 55 fr) → W'.heap[k]? = W.heap[k]?) ∧ W.heap.size ≤ W'.heap.size
theorem KeepF.refl (S : Nat → Prop) (W : World) : KeepF S W W := ⟨KeepS.refl _ _, fun _ _ _ _ => rfl, Nat.le_refl _⟩
theorem KeepF.trans {S : Nat → Prop} {A B C : World} (h : KeepF S A B) (k : KeepF S B C) : KeepF S A C :=
  ⟨h.1.trans k.1, fun i cs fr hi => by have h1 := h.2.1 i cs fr hi; exact (k.2.1 i cs fr (h1.trans hi)).trans h1, Nat.le_trans h.2.2 k.2.2⟩
theorem KeepF.put {S : Nat → Prop} {B : Nat} (hS : ∀ k, S k → k < B) (W : World) (l : Nat) (o o' : Obj) (hl : B ≤ l) (h : W.heap[l]? = some o) (hc : o.isCells = false) (hw : o.isWalk = false) : KeepF S W (W.putObj l o') :=
  ⟨KeepS.put hS W l o o' hl h hc hw, fun k cs fr hk => World.putObj_heap_other (fun e => by subst e; rw [h] at hk; injection hk with hk; subst hk; cases hc), by simp⟩
theorem below_grown {W W' : World} (h : Below W.heap.size W W') : W.grownBy W' none := ⟨h.os, h.tape, h.output, h.size, fun k hk _ => h.block k hk⟩
theorem KeepS.tabU {S : Nat → Prop} {W W' : World} (h : KeepS S W W') (h0 : S 0) (h1 : S 1) (hu : TabU W) : TabU W' :=
  ⟨fun c hc => (h.cell h0 c).trans (hu.1 c hc), fun i hi => ⟨(h.cell h1 _).trans (hu.2 i hi).1, (h.cell h1 _).trans (hu.2 i hi).2⟩⟩
theorem KeepS.maxLen {S : Nat → Prop} {W W' : World} (h : KeepS S W W') (h0 : S 4) (hm : MaxLen W) : MaxLen W' := by
  obtain ⟨m, hm⟩ := hm
  exact ⟨m, (h.cell h0 0).trans hm⟩
set_option maxRecDepth 100000 in
set_option maxHeartbeats 4000000 in
theorem lexiter_in (n : Nat) (hn : 1 ≤ n) (lp Bs : Nat) (S : Nat → Prop) (l : List UInt8) (hl : l.length ≤ 100000) (hSB : S Bs) (hSM : S 4) (hSF : S 0) (hSA : S 1)
    (M : Nat) (hrun : RunP l M) (J Jx : List Nx → World → Prop) (W : World) (hJ : AbidesFrom W.heap.size J)
    (hY : ∀ pre x W1, J pre W1 → pre.length < M → YieldAt Fence.wide (n - 1) Tryz.prog lp (nxE x) W1 fun e W' =>
      (e = .returned (.bool true) ∧ J (pre ++ [x]) W' ∧ KeepF S W1 W') ∨ (e = .returned (.bool false) ∧ Jx (pre ++ [x]) W'))
    (hSlt : ∀ k, S k → k < W.heap.size)
    (hB : W.heap[Bs]? = some (.cells #[.string (bs l)] 9 (0, 0))) (hM : MaxLen W) (hU : TabU W) (h0 : J [] W) :
    CallsIn Fence.wide n Tryz.prog 43 #[.func (.yield lp) #[] #[], .pointer (some ⟨Bs, 0, none⟩)] W fun e W' => (∃ v, e = .returned v) ∧
      ((∃ ys, ys = upto (itemV l) M ∧ J ys W') ∨ (∃ pre, (∃ k, k ≤ M ∧ pre = upto (itemV l) k) ∧ Jx pre W')) := by
  have HB := Lib.hid hB
  have HM := Lib.hid hM
  have HU := Lib.hid hU
  have hsz : (bs l).size = l.length := bs_size l
  have HSZ := Lib.hid hsz
  have hle : (bs l).size ≤ 100000 := by omega
  have HSK := Lib.hid (fun i hi w h => skip_any l i hi hl w h)
  have HNX := Lib.hid (fun i hi w h => next_any l i hi hl w h)
  have HRUN := Lib.hid hrun
  have c0 := row_cells HB.out 0
  clear hB hM hU hsz hrun
  generalize bs l = T at *
  refine callsIn_of_wp Tryz.func43 rfl trivial ?_ rfl
  simp only [Tryz.ntmps43, List.size_toArray, List.length_cons, List.length_nil, Nat.reduceAdd, Nat.reduceSub, Array.replicate_succ, Array.replicate_zero, List.push_toArray, List.append_toArray, List.nil_append, List.cons_append]
  have HS0 := Lib.hid (HSK.out 0 (Nat.zero_le _) W HM.out)
  gi_wp2_with (refine ⟨trivial, ?_⟩; gi_at_call 44; refine (callsIn_wide.2 HS0.out).mono ?_; rintro e w' ⟨rfl, hb1⟩)
  have HJ1 : Hid (J (upto (itemV l) 0) w') := hJ [] W w' none h0 (below_grown hb1) (fun r e => by cases e)
  have HK1 : Hid (KeepS S W w') := fun k hk => hb1.block k (hSlt k hk)
  have HZ1 := Lib.hid hb1.size
  clear hb1 c0 HS0 h0
  gi_loopw [3] (fun i wr => ∃ k : Nat, k ≤ M ∧ i = .int .i64 (posV l k : Int) ∧ posV l k ≤ l.length ∧ (∀ q, q < k → (itemV l q).2.2.2 = 0) ∧ J (upto (itemV l) k) wr ∧ KeepS S W wr ∧ W.heap.size ≤ wr.heap.size)
    (fun i _ => l.length - (intOf i).toNat)
  case atStart => exact ⟨0, Nat.zero_le _, by rw [show posV l 0 = skipS false l by show 0 + skipS false (l.drop 0) = _; rw [List.drop_zero, Nat.zero_add]], skipAt_le l (Nat.zero_le _), fun q h => absurd h (Nat.not_lt_zero _), HJ1.out, HK1.out, HZ1.out⟩
  case round =>
    obtain ⟨k, hk, rfl, hpl, hok, hJk, hkeep, hzr⟩ := hrel
    have HOK := Lib.hid hok
    have HJK := Lib.hid hJk
    have HKP := Lib.hid hkeep
    have c0 := row_cells ((hkeep Bs hSB).trans HB.out) 0
    have hposb : (posV l k : Int) ≤ 100000 := by omega
    clear hok hJk hkeep
    by_cases hlt : k < M
    · have hpl2 := HRUN.out.1 k hlt
      have hps : posV l k < T.size := by rw [HSZ.out]; exact hpl2
      have HNX2 : Hid (Calls Tryz.prog 45 #[.string T, .int .i64 (posV l k : Int)] wr fun e w' => e = nxR (itemV l k) ∧ Below wr.heap.size wr w') := HNX.out _ hpl2 wr (HKP.out.tabU hSF hSA HU.out)
      have hnl : posV l k + (itemV l k).2.1 ≤ l.length := next_len l _ hpl2
      have hnp : (itemV l k).2.2.2 = 0 → 1 ≤ (itemV l k).2.1 := next_pos l _
      have HPS : Hid (posV l (k + 1) = skipAt l (posV l k + (itemV l k).2.1)) := rfl
      have HUP : Hid (upto (itemV l) (k + 1) = upto (itemV l) k ++ [itemV l k]) := upto_succ _ _
      have HIT : Hid (∀ q, q < k + 1 → (itemV l k).2.2.2 = 0 → (itemV l q).2.2.2 = 0) := fun q hq h => by
        by_cases e : q = k
        · subst e; exact h
        · exact HOK.out q (by omega)
      have HLAST : Hid ((itemV l k).2.2.2 ≠ 0 → k + 1 = M) := fun h => by
        rcases Nat.lt_or_ge (k + 1) M with h1 | h1
        · exact absurd (HRUN.out.2.1 k h1) h
        · omega
      have HYX := Lib.hid (fun W1 h => hY (upto (itemV l) k) (itemV l k) W1 h (by rw [upto_length]; exact hlt))
      generalize itemV l k = X at *
      obtain ⟨⟨x1, x2, x3⟩, x4, x5, x6⟩ := X
      generalize hp : posV l k = p at *
      clear hp
      simp only [nxR] at HNX2
      gi_upto_region 4 with (refine ⟨trivial, ?_⟩; gi_at_call 45; refine (callsIn_wide.2 HNX2.out).mono ?_; rintro e w2 ⟨rfl, hb2⟩)
      refine wpIn_at_world ?_
      intro V hV
      have KT : Hid (V.heap[w2.heap.size + 1]? = some (.cells #[.int .i64 (x5 : Int), .int .i64 (x6 : Int)] 55 (0, 0))) := by rw [hV]; exact row_new2 _ _ _ _
      have KX : Hid (V.heap[w2.heap.size]? = some (.cells #[.int .i64 (x1 : Int), .string (bs x2), .int .i64 (x3 : Int)] 38 (0, 0))) := by rw [hV]; exact (Below.heap_alloc _ _ _ (by simp)).trans (row_new _ _ _)
      have hbV : Below wr.heap.size wr V := by rw [hV]; exact (hb2.alloc hb2.size _).alloc (by have := hb2.size; simp; omega) _
      obtain ⟨fn, tm, asg, bo, hy, hR⟩ := HYX.out V (hJ _ wr V none HJK.out (below_grown hbV) (fun r e => by cases e))
      dsimp only [nxE] at hy
      have HKV : Hid (KeepS S W V) := HKP.out.trans (fun q hq => hbV.block q (Nat.lt_of_lt_of_le (hSlt q hq) hzr))
      have HZV : Hid (W.heap.size ≤ V.heap.size) := Nat.le_trans hzr hbV.size
      have f0 := row_cells KT.out 0
      have f1 := row_cells KT.out 1
      have t0 := row_cells KX.out 0
      have t1 := row_cells KX.out 1
      have t2 := row_cells KX.out 2
      clear hV hb2 hbV c0
      gi_wp2
      refine hR.mono ?_
      rintro e W3 (⟨rfl, hJ3, hk3⟩ | ⟨rfl, hJx3⟩)
      · have HJ3 := Lib.hid hJ3
        have KT3 := Lib.hid ((hk3.2.1 _ _ _ KT.out).trans KT.out)
        have HK3 := Lib.hid (HKV.out.trans hk3.1)
        have hzW : W.heap.size ≤ W3.heap.size := Nat.le_trans HZV.out hk3.2.2
        have c0 := row_cells ((HK3.out Bs hSB).trans HB.out) 0
        clear f0 f1 t0 t1 t2 hR hy hJ3 hk3
        have f1 := row_cells KT3.out 1
        by_cases hx6 : x6 = 0
        · subst hx6
          have hx4 := hnp rfl
          have HS3 := Lib.hid (HSK.out (p + x4) hnl W3 (HK3.out.maxLen hSM HM.out))
          have hxb : (x4 : Int) ≤ 100000 := by omega
          have HFE : Hid (∀ q, q < k + 1 → (itemV l q).2.2.2 = 0) := fun q hq => HIT.out q hq rfl
          have hge : p < skipAt l (p + x4) := by unfold skipAt; omega
          clear hnp
          gi_wp2_with (refine ⟨trivial, ?_⟩; gi_at_call 44; refine (callsIn_wide.2 HS3.out).mono ?_; rintro e w5 ⟨rfl, hb5⟩)
          go_roundw
          case rel => exact ⟨k + 1, hlt, by rw [HPS.out]; rfl, by rw [HPS.out]; exact skipAt_le l hnl, HFE.out, by rw [HUP.out]; exact hJ _ W3 w5 none HJ3.out (below_grown hb5) (fun r e => by cases e), HK3.out.trans (fun q hq => hb5.block q (Nat.lt_of_lt_of_le (hSlt q hq) hzW)), Nat.le_trans hzW hb5.size⟩
          case measure => have := skipAt_le l hnl; unfold skipAt at this hge; simp [intOf]; omega
        · have h6 : ((x6 : Int) == 0) = false := by simp only [beq_eq_false_iff_ne]; omega
          have HME := Lib.hid (HLAST.out hx6)
          gi_wp2
          refine bodyPost_ret (results_none rfl _ _ _) rfl ?_
          exact ⟨⟨_, rfl⟩, .inl ⟨_, rfl, by rw [← HME.out, HUP.out]; exact HJ3.out⟩⟩
      · gi_wp2
        refine bodyPost_ret (results_none rfl _ _ _) rfl ?_
        exact ⟨⟨_, rfl⟩, .inr ⟨_, ⟨k + 1, hlt, HUP.out.symm⟩, hJx3⟩⟩
    · obtain rfl : k = M := by omega
      have hpe : ¬ posV l k < T.size := by
        rw [HSZ.out]
        rcases HRUN.out.2.2 with ⟨h, _⟩ | ⟨h1, h2⟩
        · omega
        · exact absurd (HOK.out (k - 1) (by omega)) h2
      gi_wp2
      go_end0
      exact ⟨⟨_, rfl⟩, .inl ⟨_, rfl, HJK.out⟩⟩
end Go.Proofs.YtpionddponmdmaaGreatDoor
