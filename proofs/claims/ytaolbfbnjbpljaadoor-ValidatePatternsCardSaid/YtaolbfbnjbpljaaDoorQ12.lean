/- Walk: strings.ContainsAny of the two braces, of any text. -/
import Derived.Test.YtaolbfbnjbpljaaDoorQ10
import Derived.Test.YtaolbfbnjbpljaaDoorQ11
import Derived.Lib.OthersKept
import Derived.Lib.TrimAscii
namespace Go.Proofs.YtaolbfbnjbpljaaDoor
open Go.RowKit
attribute [local go_sem] Ext.cell Ext.frozen
attribute [local go_sem ↓] Go.wp_at_zero Go.wp_at_succ
theorem indexByte_memY (l : List UInt8) (c : UInt8) : (c ∈ l → 0 ≤ Lib.indexByte l c) ∧ (c ∉ l → Lib.indexByte l c = -1) := by
  induction l with
  | nil => exact ⟨fun h => (by cases h), fun _ => rfl⟩
  | cons b l ih =>
    unfold Lib.indexByte
    by_cases h : b = c
    · subst h
      rw [beq_self_eq_true, if_pos rfl]
      exact ⟨fun _ => Int.le_refl _, fun h => absurd (List.mem_cons_self ..) h⟩
    · rw [if_neg (by simpa using h)]
      constructor
      · intro hm
        have hm2 : c ∈ l := (List.mem_cons.1 hm).resolve_left (fun e => h e.symm)
        have := ih.1 hm2
        rw [if_neg (by simp only [beq_iff_eq]; omega)]
        omega
      · intro hm
        rw [if_pos (by rw [ih.2 (fun e => hm (List.mem_cons_of_mem _ e))]; rfl)]
theorem valid_of {n : Nat} (h : n < 55296 ∨ (57344 ≤ n ∧ n ≤ 1114111)) : Utf8.valid (n : Int) = true := by
  unfold Utf8.valid
  simp
  omega
theorem dec_hi {x : List UInt8} (_hne : x ≠ []) (h : 128 ≤ (x.getD 0 0).toNat) : 128 ≤ (Lib.decodeL x).1 ∧ Utf8.valid ((Lib.decodeL x).1 : Int) = true ∧ ∀ j, j < (Lib.decodeL x).2 → 128 ≤ (x.getD j 0).toNat := by
  rw [Lib.decodeL_N]
  rcases Lib.decodeN_shape x.length (x.getD 0 0).toNat (x.getD 1 0).toNat (x.getD 2 0).toNat (x.getD 3 0).toNat with ⟨c, e⟩ | ⟨c1, c2, c3, cv, e⟩ | ⟨c1, c2, c3, c4, cv, cs, e⟩ | ⟨c1, c2, c3, c4, c5, cv, cw, e⟩ | e
  · omega
  · rw [e]
    refine ⟨by dsimp only; omega, valid_of (by dsimp only; omega), fun j hj => ?_⟩
    have hj2 : j = 0 ∨ j = 1 := by dsimp only at hj; omega
    rcases hj2 with rfl | rfl <;> omega
  · rw [e]
    refine ⟨by dsimp only; omega, valid_of (by dsimp only; omega), fun j hj => ?_⟩
    have hj2 : j = 0 ∨ j = 1 ∨ j = 2 := by dsimp only at hj; omega
    rcases hj2 with rfl | rfl | rfl <;> omega
  · rw [e]
    refine ⟨by dsimp only; omega, valid_of (by dsimp only; omega), fun j hj => ?_⟩
    have hj2 : j = 0 ∨ j = 1 ∨ j = 2 ∨ j = 3 := by dsimp only at hj; omega
    rcases hj2 with rfl | rfl | rfl | rfl <;> omega
  · rw [e]
    refine ⟨by decide, by decide, fun j hj => ?_⟩
    have hj2 : j = 0 := by dsimp only at hj; omega
    rw [hj2]; exact h
theorem noAny_more {l ch : List UInt8} {i k : Nat} (h : Lib.NoAny l ch i) (hk : ∀ j, j < k → ch.contains (l.getD (i + j) 0) = false) : Lib.NoAny l ch (i + k) := fun j b hj hb => by
  rcases Nat.lt_or_ge j i with h1 | h1
  · exact h j b h1 hb
  · have := hk (j - i) (by omega)
    rw [show i + (j - i) = j by omega] at this
    rwa [List.getD, hb] at this
theorem hi_no {c : UInt8} (h : 128 ≤ c.toNat) : ([123, 125] : List UInt8).contains c = false := by
  have k : ∀ n : Fin 256, 128 ≤ n.val → ([123, 125] : List UInt8).contains (UInt8.ofNat n.val) = false := by decide +kernel
  have := k ⟨c.toNat, c.toNat_lt⟩ h
  simpa using this
theorem iterAt_below {w wx : World} {S : ByteArray} {p : Nat} (h : Below w.heap.size w wx) : Below w.heap.size w (wx.iterAt w.heap.size S p) :=
  ⟨h.os, h.tape, h.output, by simp [World.iterAt]; exact h.size, fun k hk => by
    have : (wx.iterAt w.heap.size S p).heap[k]? = wx.heap[k]? := by simp [World.iterAt, Array.getElem?_setIfInBounds]; intro e; omega
    rw [this]; exact h.block k hk⟩
set_option maxRecDepth 20000 in
theorem ascii_any (n : Nat) (hn : n ≤ 8) (w : World) : Calls Tryd.prog 86 #[.int .i64 (n : Int)] w fun e w' => e = .returned (.bool false) ∧ w = w' := by
  have g : ¬ 8 < (n : Int) := by omega
  go_enter Tryd.func86, Tryd.ntmps86
  go_wp2_with fail
  go_ret
  exact ⟨rfl, rfl⟩
theorem irune_low (c : UInt8) (h : c.toNat < 128) (w : World) : Calls Tryd.prog 85 #[.string ⟨#[123, 125]⟩, .int .i32 (c.toNat : Int)] w fun e w' => e = .returned (.int .i64 (Lib.indexByte [123, 125] c)) ∧ w = w' := by
  have := Any.strings_IndexRune_ascii Tryd.lays152 ⟨#[123, 125]⟩ (c.toNat : Int) w (by omega) (by omega)
  refine this.mono fun e w' hh => ⟨?_, hh.2.symm⟩
  rw [hh.1]
  have : ((c.toNat : Int)).toNat.toUInt8 = c := by simp
  rw [this]
set_option maxRecDepth 20000 in
set_option maxHeartbeats 8000000 in
theorem iany_any (l : List UInt8) (hl : l.length ≤ 1000) (w : World) : Calls Tryd.prog 69 #[.string (bs l), .string ⟨#[123, 125]⟩] w fun e w' => e = .returned (.int .i64 (Lib.indexAny l [123, 125])) ∧ Below w.heap.size w w' := by
  have hsz : (bs l).size = l.length := bs_size l
  by_cases h8 : 8 < l.length
  · have hi : (Tryd.prog.info? (Tryd.lays153_ren.t 116)).map (fun i => (i.zero, i.size)) = some (some (.agg (Array.replicate 256 (.bool false))), 256) := by kernel_rfl
    refine (Any.strings_IndexAny_long Tryd.lays153 (zero_of_info hi).1 (zero_of_info hi).2 (bs l) ⟨#[123, 125]⟩ w (by decide) (by omega) (by omega) (by decide) (fun j b hb => ?_)).mono fun e w' hh => ⟨?_, ?_⟩
    · have hm : b ∈ ([123, 125] : List UInt8) := List.mem_of_getElem? hb
      have k : ∀ b ∈ ([123, 125] : List UInt8), b.toNat < 128 := by decide
      exact k b hm
    · rw [hh.1, bs_data]
    · rw [hh.2]
      exact ((Below.refl _ _).alloc (Nat.le_refl _) _).alloc (by simp) _
  · obtain ⟨S, hS⟩ : ∃ S, bs l = S := ⟨_, rfl⟩
    have HDEC : Hid (∀ i, Utf8.decode S i = Lib.decodeL (l.drop i)) := fun i => by rw [← hS, ← Lib.decodeL_drop, bs_data]
    rw [hS] at hsz ⊢
    have HSZ := Lib.hid hsz
    have HAS := Lib.hid (fun w => ascii_any S.size (by omega) w)
    have hle : S.size ≤ 8 := by omega
    clear hS hsz
    go_enter Tryd.func69, Tryd.ntmps69
    go_wp2_with fail
    refine (HAS.out _).mono ?_
    rintro e _ ⟨rfl, rfl⟩
    go_wp2_with fail
    go_loopw [9, 10] (fun _ _ wx => ∃ i : Nat, i ≤ l.length ∧ wx.heap[w.heap.size]? = some (.stringIter S i) ∧ Lib.NoAny l [123, 125] i ∧ Below w.heap.size w wx) (fun _ _ wx => l.length - wx.iterPos w.heap.size)
    case atStart => exact ⟨0, Nat.zero_le _, World.iter_heap w S 0, Lib.NoAny.zero _ _, (Below.refl _ _).alloc (Nat.le_refl _) _⟩
    case round =>
      obtain ⟨i, hil, hit, hno, hbl⟩ := hrel
      have HIT := Lib.hid hit
      have HNO := Lib.hid hno
      have HBL := Lib.hid hbl
      have HPOS : Hid (World.iterPos wr w.heap.size = i) := by unfold Hid World.iterPos; rw [hit]
      clear hit hno hbl
      by_cases hi : i < l.length
      · have hiS : i < S.size := by rw [HSZ.out]; exact hi
        have hdr : l.drop i = l.getD i 0 :: l.drop (i + 1) := by rw [List.drop_eq_getElem_cons hi]; simp [List.getD, List.getElem?_eq_getElem hi]
        have hxl : l[i]? = some (l.getD i 0) := by simp [List.getD, List.getElem?_eq_getElem hi]
        by_cases hc : (l.getD i 0).toNat < 128
        · have hd : Utf8.decode S i = ((l.getD i 0).toNat, 1) := by rw [HDEC.out, hdr, Lib.decodeL_ascii _ _ hc]
          have hnx := fun ty => Lib.run_next_any_at (P := Tryd.prog) _ w.heap.size S i ty HIT.out hiS
          rw [hd] at hnx
          have HIR := Lib.hid (fun w => irune_low (l.getD i 0) hc w)
          have hIT2 := Lib.iterAt_heap _ w.heap.size S i (i + 1) HIT.out
          have HIT2 := Lib.hid hIT2
          have HB2 := Lib.hid (iterAt_below (S := S) (p := i + 1) HBL.out)
          cases hin : ([123, 125] : List UInt8).contains (l.getD i 0)
          · have hib : Lib.indexByte [123, 125] (l.getD i 0) = -1 := (indexByte_memY _ _).2 (by simpa using hin)
            rw [hib] at HIR
            have HN2 := Lib.hid (HNO.out.succ hxl hin)
            clear hdr hxl hd hib hin hIT2
            generalize l.getD i 0 = c at *
            go_wp2_with fail
            refine (HIR.out _).mono ?_
            rintro e _ ⟨rfl, rfl⟩
            go_wp2_with fail
            go_roundw
            case rel => exact ⟨i + 1, hi, HIT2.out, HN2.out, HB2.out⟩
            case measure =>
              have h1 := HPOS.out
              have h2 : World.iterPos (wr.iterAt w.heap.size S (i + 1)) w.heap.size = i + 1 := by unfold World.iterPos; rw [HIT2.out]
              rw [h1, h2]; omega
          · have hib : 0 ≤ Lib.indexByte [123, 125] (l.getD i 0) := (indexByte_memY _ _).1 (by simpa using hin)
            have HR : Hid (Lib.indexAny l [123, 125] = i) := Lib.indexAny_hit HNO.out hxl hin
            clear hdr hxl hd hin hIT2
            generalize Lib.indexByte [123, 125] (l.getD i 0) = ib at *
            generalize l.getD i 0 = c at *
            go_wp2_with fail
            refine (HIR.out _).mono ?_
            rintro e _ ⟨rfl, rfl⟩
            go_wp2_with fail
            go_ret
            exact ⟨by rw [HR.out]; rfl, HB2.out⟩
        · obtain ⟨D, hD⟩ : ∃ D, Lib.decodeL (l.drop i) = D := ⟨_, rfl⟩
          have hne : l.drop i ≠ [] := by rw [hdr]; simp
          have h0 : 128 ≤ ((l.drop i).getD 0 0).toNat := by rw [hdr]; show 128 ≤ (l.getD i 0).toNat; omega
          have hdl := Lib.decodeL_le (l.drop i) hne
          have hdw := Lib.decodeL_width (l.drop i)
          obtain ⟨d1, d2, d3⟩ := dec_hi hne h0
          rw [hD] at hdl hdw d1 d2 d3
          obtain ⟨r, k⟩ := D
          simp only at hdl hdw d1 d2 d3
          rw [List.length_drop] at hdl
          have hd : Utf8.decode S i = (r, k) := by rw [HDEC.out, hD]
          have hnx := fun ty => Lib.run_next_any_at (P := Tryd.prog) _ w.heap.size S i ty HIT.out hiS
          rw [hd] at hnx
          have HIR := Lib.hid (fun w => irune_any r d1 d2 w)
          have hIT2 := Lib.iterAt_heap _ w.heap.size S i (i + k) HIT.out
          have HIT2 := Lib.hid hIT2
          have HB2 := Lib.hid (iterAt_below (S := S) (p := i + k) HBL.out)
          have HN2 := Lib.hid (noAny_more (k := k) HNO.out (fun j hj => hi_no (by have := d3 j hj; rwa [drop_getD] at this)))
          have hzz : w.heap.size < (World.iterAt _ w.heap.size S (i + k)).heap.size := (Array.getElem?_eq_some_iff.1 hIT2).1
          have HZZ := Lib.hid hzz
          clear hdr hxl hd hD hne h0 d1 d2 d3 hIT2 hzz
          go_wp2_with fail
          refine (HIR.out _).mono ?_
          rintro e w3 ⟨rfl, hb3⟩
          have HIT3 := Lib.hid ((hb3.block w.heap.size HZZ.out).trans HIT2.out)
          have HB3 := Lib.hid (HB2.out.trans (hb3.mono HB2.out.size))
          clear hb3
          go_wp2_with fail
          go_roundw
          case rel => exact ⟨i + k, by omega, HIT3.out, HN2.out, HB3.out⟩
          case measure =>
            have h1 := HPOS.out
            have h2 : World.iterPos w3 w.heap.size = i + k := by unfold World.iterPos; rw [HIT3.out]
            rw [h1, h2]; omega
      · obtain rfl : i = l.length := by omega
        have hne := fun ty => Lib.run_next_end_at (P := Tryd.prog) _ w.heap.size S l.length ty HIT.out (by rw [HSZ.out]; omega)
        have HR : Hid (Lib.indexAny l [123, 125] = -1) := Lib.indexAny_none HNO.out
        go_wp2_with fail
        go_ret
        exact ⟨by rw [HR.out]; rfl, HBL.out⟩
set_option maxRecDepth 20000 in
theorem cany_any (l : List UInt8) (hl : l.length ≤ 1000) (w : World) : Calls Tryd.prog 38 #[.string (bs l), .string ⟨#[123, 125]⟩] w fun e w' => e = .returned (.bool (decide (0 ≤ Lib.indexAny l [123, 125]))) ∧ Below w.heap.size w w' := by
  have HI := Lib.hid (iany_any l hl w)
  generalize Lib.indexAny l [123, 125] = ix at *
  generalize bs l = S at *
  go_enter Tryd.func38, Tryd.ntmps38
  go_wp2_with fail
  refine HI.out.mono ?_
  rintro e w2 ⟨rfl, hb⟩
  have HB := Lib.hid hb
  clear hb
  go_wp2_with fail
  go_ret
  exact ⟨rfl, HB.out⟩
end Go.Proofs.YtaolbfbnjbpljaaDoor
/- Walk: whether a text has each placeholder once, by the program. -/
namespace Go.Proofs.YtaolbfbnjbpljaaDoor
open Go.RowKit
attribute [local go_sem] Ext.cell Ext.frozen
attribute [local go_sem ↓] Go.wp_at_zero Go.wp_at_succ
def MaxLenY (w : World) : Prop := ∃ m : Int, w.cell? ⟨0, 0, none⟩ = some (.int .i64 m)
theorem MaxLenY.below {w w' : World} (h : MaxLenY w) (hb : Below w.heap.size w w') : MaxLenY w' := by
  obtain ⟨m, hm⟩ := h
  exact ⟨m, (hb.cell (p := ⟨0, 0, none⟩) (World.block_lt_of_cell? w _ hm)).trans hm⟩
open Go.Shelf in
theorem extra154 : Builder.Extra Tryd.prog Tryd.lays154_ren := {
  sizeBuilder := by kernel_rfl
  liesBuilder := by kernel_rfl
  t5 := Tryd.underlying5
  a5 := Tryd.isAgg5
  z5 := Tryd.sizeOf5
  v5 := Tryd.zeroValue5
  infoByte := by kernel_rfl
  cellsByte := by kernel_rfl
  sizeByte := by kernel_rfl
  neB5 := by decide }
theorem plL_len (i : Nat) : (plL i).length = 3 := rfl
theorem count_call (l : List UInt8) (i : Nat) (hl : l.length ≤ 1000) (w : World) (hM : MaxLenY w) : Calls Tryd.prog 36 #[.string (bs l), .string (bs (plL i))] w fun e w' => e = .returned (.int .i64 (Lib.count l (plL i) : Int)) ∧ w = w' := by
  obtain ⟨m, hm⟩ := hM
  refine (Any.strings_Count_any Tryd.lays138 (bs l) (bs (plL i)) m w (by rw [bs_size]; omega) hm (by rw [bs_size, plL_len]; omega)).mono fun e w' h => ⟨?_, h.2.symm⟩
  rw [h.1]
  show _ = Ending.returned (Value.int .i64 (Lib.count l (plL i) : Int))
  rw [← bs_data l, ← bs_data (plL i)]
  rfl
theorem replace_call (l : List UInt8) (i : Nat) (hl : l.length ≤ 1000) (hc : Lib.count l (plL i) = 1) (w : World) (hM : MaxLenY w) : Calls Tryd.prog 37 #[.string (bs l), .string (bs (plL i)), .string ⟨#[0]⟩, .int .i64 1] w fun e w' => e = .returned (.string (bs (Lib.replaceK (plL i) [0] 1 l))) ∧ Below w.heap.size w w' := by
  obtain ⟨m, hm⟩ := hM
  have hcb : Lib.countB (bs l) (bs (plL i)) = 1 := by
    show Lib.count (bs l).data.toList (bs (plL i)).data.toList = 1
    rw [bs_data, bs_data]; exact hc
  refine (Any.strings_Replace_some Tryd.lays154 extra154 (bs l) (bs (plL i)) ⟨#[0]⟩ 1 m w (by rw [bs_size]; omega) hm (by rw [bs_size, plL_len]; omega) (fun e => ?_) (by decide) (by rw [hcb]; decide) (by rw [hcb, bs_size]; show l.length + 1 * 1 ≤ _; omega)).mono fun e w' h => ⟨?_, h.2⟩
  · have := congrArg ByteArray.size e
    rw [bs_size, plL_len] at this
    cases this
  · rw [h.1, bs_data, bs_data]
    have hn : Lib.replaceNum l (plL i) 1 = 1 := by unfold Lib.replaceNum; rw [hc, if_neg (by decide)]; rfl
    rw [hn]
    rfl
theorem rep_len {s : List UInt8} {k : Nat} (hc : Lib.count s (plL k) = 1) : (Lib.replaceK (plL k) [0] 1 s).length ≤ s.length := by
  obtain ⟨i, hi⟩ : ∃ i : Nat, Lib.index s (plL k) = i := by
    by_cases h : Lib.index s (plL k) = -1
    · rw [Lib.count_miss h] at hc; cases hc
    · have := Lib.index_ge s (plL k); exact ⟨(Lib.index s (plL k)).toNat, by omega⟩
  obtain ⟨x, y, e1, e2, e3⟩ := index_split (plL_ne k) s i hi
  rw [Lib.replaceK_hit (plL k) [0] 0 s i hi]
  have ht : s.take i = x := by rw [e1, ← e2, List.take_left]
  have hd : s.drop (i + (plL k).length) = y := by rw [← List.drop_drop, e1, ← e2, List.drop_left, List.drop_left]
  rw [ht, hd, e1]
  show (x ++ [0] ++ y).length ≤ _
  simp [plL]
theorem any_brace : ∀ l : List UInt8, (0 ≤ Lib.indexAny l [123, 125]) ↔ ∃ c ∈ l, BraceB c
  | [] => ⟨fun h => absurd h (by decide), fun ⟨c, hc, _⟩ => (by cases hc)⟩
  | b :: l => by
    have ih := any_brace l
    have hge := Lib.indexAny_ge [123, 125] l
    rw [Lib.indexAny]
    by_cases h : ([123, 125] : List UInt8).contains b = true
    · rw [if_pos h]
      refine ⟨fun _ => ⟨b, List.mem_cons_self .., ?_⟩, fun _ => by decide⟩
      unfold BraceB
      simpa using h
    · rw [if_neg h]
      have hb : ¬ BraceB b := fun e => h (by unfold BraceB at e; simpa using e)
      by_cases h2 : Lib.indexAny l [123, 125] = -1
      · rw [if_pos (by rw [h2]; rfl)]
        refine ⟨fun e => absurd e (by decide), fun ⟨c, hc, hcb⟩ => ?_⟩
        rcases List.mem_cons.1 hc with rfl | hc
        · exact absurd hcb hb
        · have := ih.2 ⟨c, hc, hcb⟩; omega
      · rw [if_neg (by simpa using h2)]
        refine ⟨fun _ => ?_, fun _ => by omega⟩
        obtain ⟨c, hc, hcb⟩ := ih.1 (by omega)
        exact ⟨c, List.mem_cons_of_mem _ hc, hcb⟩
theorem patZ_nat {l : List UInt8} {n : Nat} (h1 : 1 ≤ n) (h9 : n ≤ 9) : patZ l n = true ↔ OkFrom n 0 l := by
  rw [← patB_ok]
  unfold patZ
  rw [decide_eq_true (by omega), Int.toNat_natCast, Bool.true_and]
set_option maxRecDepth 20000 in
set_option maxHeartbeats 8000000 in
theorem pattern_any (l : List UInt8) (z : Int) (w : World) (hl : l.length ≤ 1000) (hz0 : -9223372036854775808 ≤ z) (hz1 : z ≤ 9223372036854775807) (hM : MaxLenY w) : Calls Tryd.prog 13 #[.string (bs l), .int .i64 z] w fun e w' => e = .returned (.bool (patZ l z)) ∧ Below w.heap.size w w' := by
  by_cases h1 : z < 1
  · have HR : Hid (patZ l z = false) := by unfold Hid patZ; rw [decide_eq_false (by omega)]; rfl
    generalize bs l = S at *
    go_enter Tryd.func13, Tryd.ntmps13
    go_wp2_with fail
    go_ret
    exact ⟨by rw [HR.out]; rfl, Below.refl _ _⟩
  by_cases h9 : 9 < z
  · have HR : Hid (patZ l z = false) := by unfold Hid patZ; rw [decide_eq_false (by omega)]; rfl
    generalize bs l = S at *
    go_enter Tryd.func13, Tryd.ntmps13
    go_wp2_with fail
    go_ret
    exact ⟨by rw [HR.out]; rfl, Below.refl _ _⟩
  obtain ⟨n, rfl⟩ : ∃ n : Nat, z = n := ⟨z.toNat, by omega⟩
  have HPZ := Lib.hid (patZ_nat (l := l) (n := n) (by omega) (by omega))
  have HMX := Lib.hid hM
  clear hz0 hz1 hM
  go_enter Tryd.func13, Tryd.ntmps13
  go_wp2_with fail
  go_loopw [0, 14] (fun s v wr => ∃ (k : Nat) (r : List UInt8), v = .int .i64 (k : Int) ∧ k ≤ n ∧ s = .string (bs r) ∧ r.length ≤ 1000 ∧ (OkFrom n 0 l ↔ OkFrom n k r) ∧ Below w.heap.size w wr) (fun _ v _ => n - (intOf v).toNat)
  case atStart => exact ⟨0, l, rfl, Nat.zero_le _, rfl, hl, Iff.rfl, Below.refl _ _⟩
  case round =>
    obtain ⟨k, r, rfl, hk, rfl, hr, hok, hbl⟩ := hrel
    have HOK := Lib.hid hok
    have HBL := Lib.hid hbl
    clear hok hbl
    by_cases hlt : k < n
    · have hdd : Lib.decDigits k = [UInt8.ofNat (48 + k)] := by rw [Lib.decDigits, dif_pos (by omega)]
      have HIA : Hid (∀ w, Calls Tryd.prog 35 #[.int .i64 (k : Int)] w fun e w' => e = .returned (.string (bs [UInt8.ofNat (48 + k)])) ∧ w = w') := fun w => by
        have h := Tryd.strconv_Itoa_small k (by omega) w
        rw [hdd] at h
        exact h.mono fun e w' hh => ⟨hh.1, hh.2.symm⟩
      have HPL : Hid (⟨#[123]⟩ ++ bs [UInt8.ofNat (48 + k)] ++ ⟨#[125]⟩ = bs (plL k)) := by
        unfold Hid
        rw [show (⟨#[123]⟩ : ByteArray) = bs [123] from rfl, show (⟨#[125]⟩ : ByteArray) = bs [125] from rfl, bs_append, bs_append]
        rfl
      have hds : (bs [UInt8.ofNat (48 + k)]).size ≤ 1 := by rw [bs_size]; exact Nat.le_refl _
      have hmx := HMX.out.below HBL.out
      have HCC := Lib.hid (fun w h => count_call r k hr w h)
      have HRC := Lib.hid (fun hc w h => replace_call r k hr hc w h)
      have z1 : (⟨#[123]⟩ : ByteArray).size = 1 := rfl
      have a1 := fun w => run_string_add_sum (P := Tryd.prog) (w := w) ⟨#[123]⟩ (bs [UInt8.ofNat (48 + k)]) (by omega)
      have a2 := fun w => run_string_add_sum (P := Tryd.prog) (w := w) (⟨#[123]⟩ ++ bs [UInt8.ofNat (48 + k)]) ⟨#[125]⟩ (by rw [ByteArray.size_append]; show _ + 1 ≤ _; omega)
      rw [HPL.out] at a2
      have HMR := Lib.hid hmx
      clear z1 hdd hmx
      by_cases hc : Lib.count r (plL k) = 1
      · have HSTEP := Lib.hid (ok_step (by omega) hlt hc)
        have HLEN := Lib.hid (rep_len hc)
        have HRC2 := Lib.hid (HRC.out hc)
        rw [hc] at HCC
        clear HRC hc
        generalize hNR : Lib.replaceK (plL k) [0] 1 r = r2 at *
        generalize bs (plL k) = PL at *
        generalize bs [UInt8.ofNat (48 + k)] = DG at *
        clear hNR
        go_wp2_with fail
        refine (HIA.out _).mono ?_
        rintro e _ ⟨rfl, rfl⟩
        go_wp2_with fail
        refine (HCC.out _ HMR.out).mono ?_
        rintro e _ ⟨rfl, rfl⟩
        go_wp2_with fail
        refine (HRC2.out _ HMR.out).mono ?_
        rintro e w3 ⟨rfl, hb3⟩
        have HB3 := Lib.hid (HBL.out.trans (hb3.mono HBL.out.size))
        clear hb3
        go_wp2_with fail
        go_roundw
        case rel => exact ⟨k + 1, r2, by go_num, hlt, rfl, Nat.le_trans HLEN.out hr, HOK.out.trans HSTEP.out, HB3.out⟩
        case measure => simp [intOf]; omega
      · have HR : Hid (patZ l n = false) := by
          unfold Hid
          cases hp : patZ l n
          · rfl
          · exact absurd (ok_count (by omega) hlt (HOK.out.1 (HPZ.out.1 hp))) hc
        have gc : ((Lib.count r (plL k) : Int) == 1) = false := by rw [beq_eq_false_iff_ne]; omega
        have gc2 : ((Lib.count r (plL k) : Int) != 1) = true := by unfold bne; rw [gc]; rfl
        clear HRC hc
        generalize Lib.count r (plL k) = cn at *
        generalize bs (plL k) = PL at *
        generalize bs [UInt8.ofNat (48 + k)] = DG at *
        go_wp2_with fail
        refine (HIA.out _).mono ?_
        rintro e _ ⟨rfl, rfl⟩
        go_wp2_with fail
        refine (HCC.out _ HMR.out).mono ?_
        rintro e _ ⟨rfl, rfl⟩
        go_wp2_with fail
        go_ret
        exact ⟨by rw [HR.out]; rfl, HBL.out⟩
    · obtain rfl : k = n := by omega
      have HCA := Lib.hid (fun w => cany_any r hr w)
      have HR : Hid (patZ l k = !decide (0 ≤ Lib.indexAny r [123, 125])) := by
        unfold Hid
        rw [Bool.eq_iff_iff, HPZ.out, HOK.out, ok_end, Bool.not_eq_true', decide_eq_false_iff_not, any_brace]
        exact ⟨fun h ⟨c, hc, hb⟩ => h c hc hb, fun h c hc hb => h ⟨c, hc, hb⟩⟩
      generalize decide (0 ≤ Lib.indexAny r [123, 125]) = DA at *
      go_wp2_with fail
      refine (HCA.out _).mono ?_
      rintro e w3 ⟨rfl, hb3⟩
      have HB3 := Lib.hid (HBL.out.trans (hb3.mono HBL.out.size))
      clear hb3
      go_wp2_with fail
      go_ret
      exact ⟨by rw [HR.out]; rfl, HB3.out⟩
end Go.Proofs.YtaolbfbnjbpljaaDoor
